/- Between loops and joins: live slots alone, roots numbered anew. -/
import Derived.Test.YtnibdgjlbhdmfaaEvY
namespace Go.Proofs.Ytnibdgjlbhdmfaa.Ev
open Go
set_option linter.unusedVariables false
set_option linter.unusedSimpArgs false
/-- Live slots; where a type is given, nil is made a row. -/
abbrev Hint := List (Nat × Option Nat)
section
variable {Ty : Nat → Type} (C : Cfg Ty)
def hasN (r : Nat) : List Nat → Bool
  | [] => false
  | x :: l => match Nat.beq r x with
    | true => true
    | false => hasN r l
def addR (os : List Nat) (r : Nat) : List Nat := match hasN r os with
  | true => os
  | false => os ++ [r]
def idx (os : List Nat) (r : Nat) : Option Nat := match os with
  | [] => none
  | x :: l => match Nat.beq r x with
    | true => some 0
    | false => match idx l r with
      | some i => some (i + 1)
      | none => none
def roots0 (os : List Nat) : AV Ty → List Nat
  | .ref r _ _ _ => addR os r
  | .ptr r _ _ _ => addR os r
  | _ => os
def roots1 (os : List Nat) : AV Ty → List Nat
  | .agg cs => cs.foldl roots0 os
  | a => roots0 os a
def roots2 (os : List Nat) : AV Ty → List Nat
  | .tup cs => cs.foldl roots1 os
  | a => roots1 os a
def ren0 (os : List Nat) : AV Ty → AV Ty
  | .ref r p vw f => match idx os r with
    | some i => .ref i p vw f
    | none => .dead
  | .ptr r p i o => match idx os r with
    | some j => .ptr j p i o
    | none => .dead
  | .agg _ => .dead
  | .tup _ => .dead
  | .ext _ _ _ _ => .dead
  | a => a
def ren1 (os : List Nat) : AV Ty → AV Ty
  | .agg cs => .agg (cs.map (ren0 os))
  | a => ren0 os a
def ren2 (os : List Nat) : AV Ty → AV Ty
  | .tup cs => .tup (cs.map (ren1 os))
  | a => ren1 os a
def rootsF (os : List Nat) (h : Hint) (fr : List (Nat × AV Ty)) : List Nat := match h with
  | [] => os
  | (t, _) :: l => rootsF (roots2 os (look fr t)) l fr
/-- Nil slices made rows. -/
def mat (h : Hint) (s : St Ty) : St Ty := match h with
  | [] => s
  | (t, none) :: l => mat l s
  | (t, some e) :: l => match look s.fr t with
    | .v (.slice none 0 0) => mat l ⟨(t, .ref s.hp.length [] none false) :: s.fr, s.hp ++ [some ⟨e, C.md t, []⟩]⟩
    | _ => mat l s
def keepF (os : List Nat) (h : Hint) (fr : List (Nat × AV Ty)) : List (Nat × AV Ty) := h.map fun (t, _) => (t, ren2 os (look fr t))
def trim1 (h : Hint) (s : St Ty) : St Ty := ⟨keepF (rootsF (List.range C.nf) h s.fr) h s.fr, (rootsF (List.range C.nf) h s.fr).map (s.hp.getD · none)⟩
def trim (h : Hint) (s : St Ty) : St Ty := trim1 C h (mat C h s)
variable {E : Tb Ty} {C}
variable {X : Set2} {W0 : World} {F0 F F' : Set2} {B : Nat → Value} {w w' : World} {hp hp' : Heap Ty} {vals vals' : Nat → Value} {sets sets' : Nat → Set2} {P : Program} {s : St Ty} {a : Act}
theorem hasN_spec {r : Nat} {l : List Nat} : hasN r l = true ↔ r ∈ l := by
  induction l with
  | nil => simp [hasN]
  | cons x l ih =>
    unfold hasN
    split
    · rename_i e; have := Nat.eq_of_beq_eq_true e; subst this; simp
    · rename_i e
      rw [ih]
      have : r ≠ x := fun h => by subst h; rw [Nat.beq_refl] at e; cases e
      simp [this]
theorem addR_nodup {os : List Nat} (h : os.Nodup) (r : Nat) : (addR os r).Nodup := by
  unfold addR
  split
  · exact h
  · rename_i e
    rw [List.nodup_append]
    refine ⟨h, by simp, fun x hx y hy => ?_⟩
    simp at hy
    subst hy
    rintro rfl
    rw [hasN_spec.2 hx] at e
    cases e
theorem addR_get {os : List Nat} {r j x : Nat} (h : os[j]? = some x) : (addR os r)[j]? = some x := by
  unfold addR
  split
  · exact h
  · rw [List.getElem?_append_left (get_lt h)]; exact h
theorem foldl_inv {α : Type} {p : List Nat → Prop} {f : List Nat → α → List Nat} (h : ∀ os a, p os → p (f os a)) : ∀ (l : List α) (os : List Nat), p os → p (l.foldl f os)
  | [], os, hp => hp
  | a :: l, os, hp => foldl_inv h l _ (h os a hp)
theorem rootsF_inv {p : List Nat → Prop} (h : ∀ os r, p os → p (addR os r)) : ∀ (l : Hint) (fr : List (Nat × AV Ty)) (os : List Nat), p os → p (rootsF os l fr)
  | [], fr, os, hp => hp
  | (t, _) :: l, fr, os, hp => by
    have h0 : ∀ os (a : AV Ty), p os → p (roots0 os a) := fun os a hp => by cases a <;> first | exact hp | exact h _ _ hp
    have h1 : ∀ os (a : AV Ty), p os → p (roots1 os a) := fun os a hp => by
      cases a <;> first | exact hp | exact h _ _ hp | exact foldl_inv h0 _ _ hp
    have h2 : ∀ os (a : AV Ty), p os → p (roots2 os a) := fun os a hp => by
      cases a <;> first | exact hp | exact h _ _ hp | exact foldl_inv h0 _ _ hp | exact foldl_inv h1 _ _ hp
    exact rootsF_inv h l fr _ (h2 _ _ hp)
theorem idx_spec : ∀ {os : List Nat} {r i : Nat}, idx os r = some i → os[i]? = some r
  | [], r, i, h => by cases h
  | x :: l, r, i, h => by
    unfold idx at h
    split at h
    · rename_i e; cases h; have := Nat.eq_of_beq_eq_true e; subst this; rfl
    · split at h
      · rename_i j e; cases h; simpa using idx_spec e
      · cases h
theorem look_keep (os : List Nat) (h : Hint) (fr : List (Nat × AV Ty)) (t : Nat) : look (keepF os h fr) t = ren2 os (look fr t) ∨ look (keepF os h fr) t = .dead := by
  induction h with
  | nil => exact .inr rfl
  | cons p l ih =>
    obtain ⟨t', q⟩ := p
    unfold keepF
    rw [List.map_cons, look_cons]
    by_cases e : t = t'
    · subst e; rw [if_pos rfl]; exact .inl rfl
    · rw [if_neg e]; exact ih
section
variable {os : List Nat}
theorem root_map {r i : Nat} (h : os[i]? = some r) : root (os.map (hp.getD · none)) i = root hp r := by
  unfold root
  rw [List.getElem?_map, h]
  simp only [Option.map_some, List.getD]
  cases hp[r]? <;> rfl
theorem root_map' {i : Nat} {R : Root Ty} (h : root (os.map (hp.getD · none)) i = some R) : ∃ r, os[i]? = some r ∧ root hp r = some R := by
  cases e : os[i]? with
  | none =>
    unfold root at h
    rw [List.getElem?_map, e] at h
    cases h
  | some r => exact ⟨r, rfl, by rw [← root_map (hp := hp) e]; exact h⟩
def anew (os : List Nat) {α : Type} (f : Nat → α) (i : Nat) : α := f (os.getD i 0)
theorem anew_of {α : Type} (f : Nat → α) {i r : Nat} (h : os[i]? = some r) : anew os f i = f r := by
  unfold anew
  rw [List.getD, h]
  rfl
theorem ren0_ok {v : Value} {a : AV Ty} (h : VRep E F w hp vals v a) : VRep E F w (os.map (hp.getD · none)) (anew os vals) v (ren0 os a) := by
  cases a with
  | v x => cases h with | rep _ _ h => exact .rep _ _ h
  | sl o t xs => cases h with | rep _ _ h => exact .rep _ _ h
  | rp t xs i o => cases h with | rep _ _ h => exact .rep _ _ h
  | box m' t x => cases h with | rep _ _ h => exact .rep _ _ h
  | agg cs => exact .dead _
  | tup cs => exact .dead _
  | ext r p t xs => exact .dead _
  | dead => exact .dead _
  | ref r p vw f =>
    obtain ⟨R, u, row, h1, h2, h3⟩ := h.ref'
    cases e : idx os r with
    | none => simp only [ren0, e]; exact .dead _
    | some i =>
      simp only [ren0, e]
      have e := idx_spec e
      exact .ref i p vw f v R u row (by rw [root_map e]; exact h1) (by rw [anew_of _ e]; exact h2) h3
  | ptr r p i o =>
    obtain ⟨R, b, off, c, row, h1, h2, h3, rfl⟩ := h.ptr'
    cases e : idx os r with
    | none => simp only [ren0, e]; exact .dead _
    | some j =>
      simp only [ren0, e]
      have e := idx_spec e
      exact .ptr j p i o R b off c row (by rw [root_map e]; exact h1) (by rw [anew_of _ e]; exact h2) h3
theorem ren1_ok {v : Value} {a : AV Ty} (h : VRep E F w hp vals v a) : VRep E F w (os.map (hp.getD · none)) (anew os vals) v (ren1 os a) := by
  unfold ren1
  split
  · rename_i cs
    obtain ⟨vs, rfl, h1, h2⟩ := h.agg'
    refine .agg vs _ (by simp [h1]) (fun i v a e1 e2 => ?_)
    rw [List.getElem?_map] at e2
    cases e3 : cs[i]? with
    | none => rw [e3] at e2; cases e2
    | some a' => rw [e3] at e2; cases e2; exact ren0_ok (h2 i v a' e1 e3)
  · exact ren0_ok h
theorem ren2_ok {v : Value} {a : AV Ty} (h : VRep E F w hp vals v a) : VRep E F w (os.map (hp.getD · none)) (anew os vals) v (ren2 os a) := by
  unfold ren2
  split
  · rename_i cs
    obtain ⟨vs, rfl, h1, h2⟩ := h.tup'
    refine .tup vs _ (by simp [h1]) (fun i v a e1 e2 => ?_)
    rw [List.getElem?_map] at e2
    cases e3 : cs[i]? with
    | none => rw [e3] at e2; cases e2
    | some a' => rw [e3] at e2; cases e2; exact ren1_ok (h2 i v a' e1 e3)
  · exact ren1_ok h
theorem Inv.anew (I : Inv E X W0 F w hp vals sets) (hn : os.Nodup) : Inv E X W0 F w (os.map (hp.getD · none)) (anew os vals) (anew os sets) := by
  refine ⟨⟨fun i R h => ?_, fun i i' R R' h h' b j s s' => ?_⟩, I.fb, fun i R b j h s => ?_, I.keep⟩
  · obtain ⟨r, e, h⟩ := root_map' h
    rw [anew_of _ e, anew_of _ e]
    exact I.H.own r R h
  · obtain ⟨r, e, h⟩ := root_map' h
    obtain ⟨r', e', h'⟩ := root_map' h'
    rw [anew_of _ e] at s
    rw [anew_of _ e'] at s'
    have := I.H.dj _ _ _ _ h h' b j s s'
    subst this
    exact (List.getElem?_inj (get_lt e) hn).1 (e.trans e'.symm)
  · obtain ⟨r, e, h⟩ := root_map' h
    rw [anew_of _ e] at s
    exact I.lim _ _ _ _ h s
end
theorem ren2_ne {os : List Nat} {a : AV Ty} {r : Nat} {p : Path} {t : Nat} {xs : List (Ty t)} : ren2 os a ≠ .ext r p t xs := by
  have h0 : ∀ a : AV Ty, ren0 os a ≠ .ext r p t xs := by
    intro a
    cases a <;> simp only [ren0, ne_eq, reduceCtorEq, not_false_eq_true] <;> split <;> simp
  have h1 : ∀ a : AV Ty, ren1 os a ≠ .ext r p t xs := by
    intro a
    cases a <;> first | (simp only [ren1]; exact h0 _) | simp [ren1]
  cases a <;> first | (simp only [ren2]; exact h1 _) | simp [ren2]
theorem FRep.more {S : Set2} (M : More hp hp' vals vals' sets sets' S) (hS : ∀ b j, ¬ S b j) {v : Value} {a : AV Ty} (h : FRep E X W0 F w hp vals sets v a) : FRep E X W0 F w hp' vals' sets' v a := by
  refine ⟨h.1.more M, fun r p t xs e => ?_⟩
  obtain ⟨R, u, ys, S', S1, h1, h2, h3, h4, h5, h6⟩ := h.2 r p t xs e
  obtain ⟨k1, k2, k3⟩ := M.old r (root_lt h1)
  refine ⟨R, u, ys, S', S1, k1.trans h1, by rw [k2]; exact h2, h3, by rw [k3]; exact h4, h5, fun b j hs => (h6 b j hs).imp id fun ⟨h7, h8⟩ => ⟨fun q Q hq s => ?_, h8⟩⟩
  by_cases e : q < hp.length
  · obtain ⟨g1, g2, g3⟩ := M.old q e
    rw [g1] at hq
    rw [g3] at s
    exact h7 q Q hq s
  · exact hS _ _ (M.new q Q b j (by omega) hq s)
theorem mat_ok (G : Good E) : ∀ (h : Hint) {s : St Ty}, SRep E C X W0 F0 B s a w → SRep E C X W0 F0 B (mat C h s) a w
  | [], s, R => R
  | (t, none) :: l, s, R => mat_ok G l R
  | (t, some e) :: l, s, R => by
    unfold mat
    split
    · rename_i hl
      refine mat_ok G l ?_
      have hv := R.val hl
      obtain ⟨⟨F, vals, sets, I, hf, hB, hG⟩, hsz, hdf, hnf⟩ := R
      obtain ⟨I', M⟩ := push_same I (R := ⟨e, C.md t, []⟩) (v := .slice none 0 0) (S := fun _ _ => False) (.nil _ _ _ fun _ _ h => h) (fun _ _ _ _ _ _ h => h) (fun _ _ h => h.elim)
      refine ⟨⟨F, _, _, I', fun t' => ?_, fun j hj => ?_, hG⟩, hsz, hdf, by simp; omega⟩
      · rw [look_cons]
        split
        · rename_i e'
          subst e'
          rw [hv]
          exact .of (ref_new (by rw [root_push, if_pos rfl]) (if_pos rfl)) fun _ _ _ _ => by simp
        · exact (hf t').more M fun _ _ h => h
      · rw [if_neg (by omega)]; exact hB j hj
    · exact mat_ok G l R
theorem trim_ok (G : Good E) (h : Hint) (R : SRep E C X W0 F0 B s a w) : SRep E C X W0 F0 B (trim C h s) a w := by
  have R := mat_ok G h R
  unfold trim
  generalize mat C h s = s at R
  obtain ⟨⟨F, vals, sets, I, hf, hB, hG⟩, hsz, hdf, hnf⟩ := R
  have hn : (rootsF (List.range C.nf) h s.fr).Nodup := rootsF_inv (p := List.Nodup) (fun os r h => addR_nodup h r) h s.fr _ List.nodup_range
  have hj : ∀ j, j < C.nf → (rootsF (List.range C.nf) h s.fr)[j]? = some j := rootsF_inv (p := fun os => ∀ j, j < C.nf → os[j]? = some j) (fun os r h j hj => addR_get (h j hj)) h s.fr _ (fun j hj => by simp [hj])
  refine ⟨⟨F, anew (rootsF (List.range C.nf) h s.fr) vals, _, I.anew hn, fun t => ?_, fun j h' => ?_, hG⟩, hsz, hdf, ?_⟩
  · rcases look_keep (rootsF (List.range C.nf) h s.fr) h s.fr t with e | e
    · unfold trim1; simp only; rw [e]; exact .of (ren2_ok (hf t).1) fun _ _ _ _ => ren2_ne
    · unfold trim1; simp only; rw [e]; exact .of (.dead _) fun _ _ _ _ => by simp
  · rw [anew_of _ (hj j h')]; exact hB j h'
  · unfold trim1
    simp only [List.length_map]
    rcases Nat.eq_zero_or_pos C.nf with h0 | h0
    · omega
    · have := get_lt (hj (C.nf - 1) (by omega))
      omega
end
end Go.Proofs.Ytnibdgjlbhdmfaa.Ev
