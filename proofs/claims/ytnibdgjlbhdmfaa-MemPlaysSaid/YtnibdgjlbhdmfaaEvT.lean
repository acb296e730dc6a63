/- Calls: what is handed to a function, what it hands back. -/
import Derived.Test.YtnibdgjlbhdmfaaEvS
namespace Go.Proofs.Ytnibdgjlbhdmfaa.Ev
open Go
set_option linter.unusedVariables false
set_option linter.unusedSimpArgs false
section
variable {Ty : Nat → Type} (E : Tb Ty)
def lend0 (hp : Heap Ty) : AV Ty → Option (AV Ty)
  | .v x => some (.v x)
  | .sl false t xs => some (.sl false t xs)
  | .rp t xs i o => some (.rp t xs i o)
  | .ref r p vw _ => match root hp r with
    | some R => match nav E R.m R.t R.xs p with
      | some row => some (.sl false row.t (view row.xs vw))
      | none => none
    | none => none
  | .ptr r p i o => match root hp r with
    | some R => match nav E R.m R.t R.xs p with
      | some row => some (.rp row.t row.xs i o)
      | none => none
    | none => none
  | _ => none
def lendL (hp : Heap Ty) : List (AV Ty) → Option (List (AV Ty))
  | [] => some []
  | a :: l => match lend0 E hp a, lendL hp l with
    | some b, some r => some (b :: r)
    | _, _ => none
def lend (hp : Heap Ty) : AV Ty → Option (AV Ty)
  | .agg cs => match lendL E hp cs with
    | some r => some (.agg r)
    | none => none
  | a => lend0 E hp a
def ref0 : AV Ty → Bool
  | .ref _ _ _ _ => true
  | .ptr _ _ _ _ => true
  | _ => false
def isRef : AV Ty → Bool
  | .agg cs => cs.any ref0
  | a => ref0 a
variable {E}
variable {X : Set2} {W0 : World} {F F' : Set2} {w w' : World} {hp hp' : Heap Ty} {vals vals' : Nat → Value} {sets sets' : Nat → Set2} {P : Program} {ρ : Operand → Value}
variable (E) in
/-- What a function hands back: S: the cells that are owned with it. -/
inductive ResOk (F : Set2) (w : World) : Value → AV Ty → Set2 → Prop
  | v (x : Value) (S : Set2) : (∀ b j, ¬ S b j) → ResOk F w x (.v x) S
  | fr (v : Value) (t : Nat) (xs : List (Ty t)) (S : Set2) : Rep E F w v (.sl false t xs) → (∀ b j, ¬ S b j) → ResOk F w v (.sl false t xs) S
  | own (v : Value) (t : Nat) (xs : List (Ty t)) (S : Set2) : Own E F w true v t xs S → ResOk F w v (.sl true t xs) S
  | box (b off c : Nat) (m : Bool) (t : Nat) (x : Ty t) (S : Set2) : Own E F w m (.slice (some ⟨b, off, none⟩) 1 c) t [x] S → ResOk F w (.pointer (some ⟨b, off, none⟩)) (.box m t x) S
  | agg (vs : Array Value) (cs : List (AV Ty)) (B : Nat → Set2) (S : Set2) : vs.size = cs.length → (∀ (i : Nat) v a, vs[i]? = some v → cs[i]? = some a → ResOk F w v a (B i)) → (∀ i j b o, B i b o → B j b o → i = j) → (∀ i b o, B i b o → i < cs.length ∧ S b o) → ResOk F w (.agg vs) (.agg cs) S
  | tup (vs : Array Value) (cs : List (AV Ty)) (B : Nat → Set2) (S : Set2) : vs.size = cs.length → (∀ (i : Nat) v a, vs[i]? = some v → cs[i]? = some a → ResOk F w v a (B i)) → (∀ i j b o, B i b o → B j b o → i = j) → (∀ i b o, B i b o → i < cs.length ∧ S b o) → ResOk F w (.tuple vs) (.tup cs) S
mutual
/-- Results taken over: what is owned becomes roots. -/
def takeA (hp : Heap Ty) : AV Ty → Option (AV Ty × Heap Ty)
  | .v x => some (.v x, hp)
  | .sl false t xs => some (.sl false t xs, hp)
  | .sl true t xs => some (.ref hp.length [] none false, hp ++ [some ⟨t, true, xs⟩])
  | .box m t x => some (.ptr hp.length [] 0 0, hp ++ [some ⟨t, m, [x]⟩])
  | .agg cs => match takeL hp cs with
    | some (r, hp') => some (.agg r, hp')
    | none => none
  | .tup cs => match takeL hp cs with
    | some (r, hp') => some (.tup r, hp')
    | none => none
  | _ => none
def takeL (hp : Heap Ty) : List (AV Ty) → Option (List (AV Ty) × Heap Ty)
  | [] => some ([], hp)
  | a :: l => match takeA hp a with
    | some (b, hp1) => match takeL hp1 l with
      | some (r, hp2) => some (b :: r, hp2)
      | none => none
    | none => none
end
/-- Roots are added behind; nothing else changes. -/
structure More (hp hp' : Heap Ty) (vals vals' : Nat → Value) (sets sets' : Nat → Set2) (S : Set2) : Prop where
  len : hp.length ≤ hp'.length
  old : ∀ r, r < hp.length → root hp' r = root hp r ∧ vals' r = vals r ∧ sets' r = sets r
  new : ∀ r R b j, hp.length ≤ r → root hp' r = some R → sets' r b j → S b j
theorem More.refl (hp : Heap Ty) (vals : Nat → Value) (sets : Nat → Set2) (S : Set2) : More hp hp vals vals sets sets S :=
  ⟨Nat.le_refl _, fun _ _ => ⟨rfl, rfl, rfl⟩, fun r R b j h1 h2 => absurd (root_lt h2) (by omega)⟩
theorem More.keep {S : Set2} (M : More hp hp' vals vals' sets sets' S) {r : Nat} {R : Root Ty} (h : root hp r = some R) : root hp' r = some R ∧ vals' r = vals r := by
  obtain ⟨h1, h2, _⟩ := M.old r (root_lt h)
  exact ⟨h1.trans h, h2⟩
theorem VRep.more {S : Set2} (M : More hp hp' vals vals' sets sets' S) {v : Value} {a : AV Ty} (h : VRep E F w hp vals v a) : VRep E F w hp' vals' v a := by
  induction h with
  | rep v a h => exact .rep _ _ h
  | ref r p vw full v R u row h1 h2 h3 => obtain ⟨k1, k2⟩ := M.keep h1; exact .ref r p vw full v R u row k1 (by rw [k2]; exact h2) h3
  | ptr r p i o R b off c row h1 h2 h3 => obtain ⟨k1, k2⟩ := M.keep h1; exact .ptr r p i o R b off c row k1 (by rw [k2]; exact h2) h3
  | agg vs cs h1 h2 ih => exact .agg vs cs h1 ih
  | tup vs cs h1 h2 ih => exact .tup vs cs h1 ih
  | dead v => exact .dead v
  | ext v r p t xs => exact .ext v r p t xs
theorem More.trans {hp'' : Heap Ty} {vals'' : Nat → Value} {sets'' : Nat → Set2} {S S' T : Set2} (M : More hp hp' vals vals' sets sets' S) (N : More hp' hp'' vals' vals'' sets' sets'' S') (h1 : ∀ b j, S b j → T b j) (h2 : ∀ b j, S' b j → T b j) :
    More hp hp'' vals vals'' sets sets'' T where
  len := Nat.le_trans M.len N.len
  old := fun r h => by
    obtain ⟨a1, a2, a3⟩ := M.old r h
    obtain ⟨b1, b2, b3⟩ := N.old r (Nat.lt_of_lt_of_le h M.len)
    exact ⟨b1.trans a1, b2.trans a2, b3.trans a3⟩
  new := fun r R b j h h' hs => by
    by_cases e : r < hp'.length
    · obtain ⟨b1, b2, b3⟩ := N.old r e
      rw [b1] at h'
      rw [b3] at hs
      exact h1 _ _ (M.new r R b j h h' hs)
    · exact h2 _ _ (N.new r R b j (by omega) h' hs)
theorem push_same (I : Inv E X W0 F w hp vals sets) {R : Root Ty} {v : Value} {S : Set2} (hO : Own E F w R.m v R.t R.xs S) (hd : ∀ r R' b j, root hp r = some R' → sets r b j → ¬ S b j) (hl : ∀ b j, S b j → X b j ∨ W0.heap.size ≤ b) :
    Inv E X W0 F w (hp ++ [some R]) (fun r => if r = hp.length then v else vals r) (fun r => if r = hp.length then S else sets r) ∧ More hp (hp ++ [some R]) vals (fun r => if r = hp.length then v else vals r) sets (fun r => if r = hp.length then S else sets r) S := by
  refine ⟨⟨⟨fun r R' h => ?_, fun r r' R1 R2 h1 h2 b j s1 s2 => ?_⟩, I.fb, fun r R' b j h s => ?_, I.keep⟩, ⟨by simp, fun r h => ?_, fun r R' b j h h' s => ?_⟩⟩
  · rw [root_push] at h
    split at h
    · rename_i e; subst e; cases h; simpa using hO
    · rename_i e; simp only [if_neg e]; exact I.H.own r R' h
  · rw [root_push] at h1 h2
    by_cases e1 : r = hp.length <;> by_cases e2 : r' = hp.length
    · rw [e1, e2]
    · simp only [if_pos e1] at s1; simp only [if_neg e2] at s2 h2; exact absurd s1 (hd _ _ _ _ h2 s2)
    · simp only [if_neg e1] at s1 h1; simp only [if_pos e2] at s2; exact absurd s2 (hd _ _ _ _ h1 s1)
    · simp only [if_neg e1] at s1 h1; simp only [if_neg e2] at s2 h2; exact I.H.dj _ _ _ _ h1 h2 b j s1 s2
  · rw [root_push] at h
    by_cases e : r = hp.length
    · simp only [if_pos e] at s; exact hl _ _ s
    · simp only [if_neg e] at s h; exact I.lim _ _ _ _ h s
  · have hne : r ≠ hp.length := by omega
    refine ⟨by rw [root_push, if_neg hne], by simp [hne], by simp [hne]⟩
  · rw [root_push] at h'
    by_cases e : r = hp.length
    · simp only [if_pos e] at s; exact s
    · rw [if_neg e] at h'; exact absurd (root_lt h') (by omega)
theorem take_list (vs : List Value) (cs : List (AV Ty)) (hlen : vs.length = cs.length) : ∀ (k : Nat) {hp hp' : Heap Ty} {vals : Nat → Value} {sets : Nat → Set2} (rs : List (AV Ty)) (B : Nat → Set2) (S : Set2),
    (∀ (i : Nat) v a, vs[i]? = some v → cs[i]? = some a → ∀ {hp hp' : Heap Ty} {vals : Nat → Value} {sets : Nat → Set2} {r : AV Ty}, takeA hp a = some (r, hp') → Inv E X W0 F w hp vals sets → (∀ q R' b j, root hp q = some R' → sets q b j → ¬ B i b j) → (∀ b j, B i b j → X b j ∨ W0.heap.size ≤ b) →
      ∃ vals' sets', Inv E X W0 F w hp' vals' sets' ∧ More hp hp' vals vals' sets sets' (B i) ∧ VRep E F w hp' vals' v r) →
    takeL hp (cs.drop k) = some (rs, hp') → Inv E X W0 F w hp vals sets → (∀ i j b o, B i b o → B j b o → i = j) → (∀ i b o, B i b o → S b o) → (∀ i, k ≤ i → ∀ q R' b j, root hp q = some R' → sets q b j → ¬ B i b j) → (∀ i b j, B i b j → X b j ∨ W0.heap.size ≤ b) →
    ∃ vals' sets', Inv E X W0 F w hp' vals' sets' ∧ More hp hp' vals vals' sets sets' S ∧ rs.length = cs.length - k ∧ ∀ (i : Nat) v r, vs[k + i]? = some v → rs[i]? = some r → VRep E F w hp' vals' v r := by
  intro k
  generalize hn : cs.length - k = n
  induction n generalizing k with
  | zero =>
    intro hp hp' vals sets rs B S hstep h I h1 h2 h3 h4
    rw [List.drop_eq_nil_of_le (by omega)] at h
    cases h
    exact ⟨vals, sets, I, .refl _ _ _ _, rfl, fun i v r e1 e2 => by simp at e2⟩
  | succ n ih =>
    intro hp hp' vals sets rs B S hstep h I h1 h2 h3 h4
    have hk : k < cs.length := by omega
    rw [List.drop_eq_getElem_cons hk] at h
    unfold takeL at h
    split at h
    · rename_i b hp1 e1
      split at h
      · rename_i r hp2 e2
        cases h
        have hc : cs[k]? = some cs[k] := List.getElem?_eq_getElem hk
        have hv : vs[k]? = some (vs[k]'(by omega)) := List.getElem?_eq_getElem (by omega)
        obtain ⟨vals1, sets1, I1, M1, V1⟩ := hstep k _ _ hv hc e1 I (h3 k (Nat.le_refl _)) (h4 k)
        obtain ⟨vals2, sets2, I2, M2, l2, V2⟩ := ih (k + 1) (by omega) r B S hstep e2 I1 h1 h2 (fun i hi q R' b j hq hs hb => by
          by_cases e : q < hp.length
          · obtain ⟨a1, _, a3⟩ := M1.old q e
            rw [a1] at hq
            rw [a3] at hs
            exact h3 i (by omega) q R' b j hq hs hb
          · have := M1.new q R' b j (by omega) hq hs
            have := h1 _ _ _ _ this hb
            omega) h4
        refine ⟨vals2, sets2, I2, M1.trans M2 (h2 k) (fun _ _ h => h), by simp [l2], fun i v r' q1 q2 => ?_⟩
        cases i with
        | zero =>
          cases q2
          rw [Nat.add_zero, hv] at q1
          cases q1
          exact V1.more M2
        | succ i => exact V2 i v r' (by rw [show k + 1 + i = k + (i + 1) by omega]; exact q1) (by simpa using q2)
      · cases h
    · cases h
/-- What comes back is taken over. -/
theorem take_ok {v : Value} {a : AV Ty} {S : Set2} (h : ResOk E F w v a S) : ∀ {hp hp' : Heap Ty} {vals : Nat → Value} {sets : Nat → Set2} {r : AV Ty}, takeA hp a = some (r, hp') → Inv E X W0 F w hp vals sets → (∀ q R' b j, root hp q = some R' → sets q b j → ¬ S b j) →
    (∀ b j, S b j → X b j ∨ W0.heap.size ≤ b) → ∃ vals' sets', Inv E X W0 F w hp' vals' sets' ∧ More hp hp' vals vals' sets sets' S ∧ VRep E F w hp' vals' v r := by
  induction h with
  | v x S hS => intro hp hp' vals sets r h I h1 h2; cases h; exact ⟨vals, sets, I, .refl _ _ _ _, .rep _ _ (.v x)⟩
  | fr v t xs S h0 hS => intro hp hp' vals sets r h I h1 h2; cases h; exact ⟨vals, sets, I, .refl _ _ _ _, .rep _ _ h0⟩
  | own v t xs S hO =>
    intro hp hp' vals sets r h I h1 h2
    cases h
    obtain ⟨I', M⟩ := push_same I (R := ⟨t, true, xs⟩) hO h1 h2
    exact ⟨_, _, I', M, ref_new (by rw [root_push, if_pos rfl]) (if_pos rfl)⟩
  | box b off c m t x S hO =>
    intro hp hp' vals sets r h I h1 h2
    cases h
    obtain ⟨I', M⟩ := push_same I (R := ⟨t, m, [x]⟩) hO h1 h2
    refine ⟨_, _, I', M, ?_⟩
    have := VRep.ptr (E := E) (F := F) (w := w) (hp := hp ++ [some ⟨t, m, [x]⟩]) (vals := fun r => if r = hp.length then .slice (some ⟨b, off, none⟩) 1 c else vals r) hp.length [] 0 0 ⟨t, m, [x]⟩ b off c ⟨t, [x]⟩ (by rw [root_push, if_pos rfl]) ⟨(if_pos rfl).symm, rfl⟩ (by simp)
    simpa using this
  | agg vs cs B S h1 h2 h3 h4 ih =>
    intro hp hp' vals sets r h I k1 k2
    unfold takeA at h
    split at h
    · rename_i rs hp1 e
      cases h
      obtain ⟨vals', sets', I', M, l, V⟩ := take_list vs.toList cs (by simpa using h1) 0 rs B S (fun i v a e1 e2 => ih i v a (by simpa using e1) e2) (by simpa using e) I h3 (fun i b o h => (h4 i b o h).2) (fun i _ q R' b j hq hs hb => k1 q R' b j hq hs (h4 _ _ _ hb).2) (fun i b j h => k2 _ _ (h4 _ _ _ h).2)
      exact ⟨vals', sets', I', M, .agg vs rs (by rw [h1, l]; omega) (fun i v r e1 e2 => V i v r (by simpa using e1) e2)⟩
    · cases h
  | tup vs cs B S h1 h2 h3 h4 ih =>
    intro hp hp' vals sets r h I k1 k2
    unfold takeA at h
    split at h
    · rename_i rs hp1 e
      cases h
      obtain ⟨vals', sets', I', M, l, V⟩ := take_list vs.toList cs (by simpa using h1) 0 rs B S (fun i v a e1 e2 => ih i v a (by simpa using e1) e2) (by simpa using e) I h3 (fun i b o h => (h4 i b o h).2) (fun i _ q R' b j hq hs hb => k1 q R' b j hq hs (h4 _ _ _ hb).2) (fun i b j h => k2 _ _ (h4 _ _ _ h).2)
      exact ⟨vals', sets', I', M, .tup vs rs (by rw [h1, l]; omega) (fun i v r e1 e2 => V i v r (by simpa using e1) e2)⟩
    · cases h
variable (E) in
/-- What a function is handed: frozen values (their cells in F); roots of single elements, to be written (X: their cells). -/
structure ArgsOk (W : World) (F X : Set2) (vs : List Value) (as : List (AV Ty)) (sets : Nat → Set2) (caps : Nat → Nat) : Prop where
  len : vs.length = as.length
  fb : ∀ b j, F b j → b < W.heap.size ∧ ¬ X b j
  rep : ∀ (i : Nat) v a, vs[i]? = some v → as[i]? = some a → (∀ m t x, a ≠ .box m t x) → Rep E F W v a
  box : ∀ (i : Nat) v m t x, vs[i]? = some v → as[i]? = some (.box m t x) → ∃ b off, v = .pointer (some ⟨b, off, none⟩) ∧ Own E F W m (.slice (some ⟨b, off, none⟩) 1 (caps i)) t [x] (sets i)
  dj : ∀ i i' b j, sets i b j → sets i' b j → i = i'
  inX : ∀ i b j, sets i b j → X b j
  X : ∀ b j, X b j → ∃ i m t x, as[i]? = some (.box m t x) ∧ sets i b j
/-- The boxes among arguments, in order. -/
def boxes : List (AV Ty) → List (AV Ty)
  | [] => []
  | .box m t x :: l => .box m t x :: boxes l
  | _ :: l => boxes l
variable (E) in
/-- What a call comes to: results and, of each box, what it then holds. -/
def CallOk (P : Program) (f : FuncId) (as : List (AV Ty)) (res : AV Ty) (outs : List (AV Ty)) : Prop :=
  ∀ (W : World) (F X : Set2) (vs : List Value) (sets : Nat → Set2) (caps : Nat → Nat), ArgsOk E W F X vs as sets caps →
    Calls P f vs.toArray W fun e W' => ∃ (v : Value) (S F' : Set2) (sets' : Nat → Set2), e = .returned v ∧ Keep X W W' ∧ (∀ b j, F b j → F' b j) ∧ (∀ b j, F' b j → F b j ∨ W.heap.size ≤ b ∨ X b j) ∧ (∀ b j, F' b j → b < W'.heap.size) ∧ ResOk E F' W' v res S ∧ (∀ b j, S b j → W.heap.size ≤ b ∨ X b j) ∧
      outs.length = as.length ∧
      (∀ (i : Nat) m t x b off, as[i]? = some (.box m t x) → vs[i]? = some (.pointer (some ⟨b, off, none⟩)) → ∃ x', outs[i]? = some (.box m t x') ∧ Own E F' W' m (.slice (some ⟨b, off, none⟩) 1 (caps i)) t [x'] (sets' i)) ∧
      (∀ i b j, sets' i b j → (W.heap.size ≤ b ∨ X b j) ∧ ¬ S b j) ∧ (∀ i i' b j, sets' i b j → sets' i' b j → i = i')
end
end Go.Proofs.Ytnibdgjlbhdmfaa.Ev
