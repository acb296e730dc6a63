/- Calls: the evaluator's step, and that the machine's call comes to it. -/
import Derived.Test.YtnibdgjlbhdmfaaEvT
namespace Go.Proofs.Ytnibdgjlbhdmfaa.Ev
open Go
set_option linter.unusedVariables false
set_option linter.unusedSimpArgs false
section
variable {Ty : Nat → Type} (E : Tb Ty)
/-- The arguments that are written: their roots are taken out. -/
def focusL : Heap Ty → List Bool → List (AV Ty) → Option (List (AV Ty) × Heap Ty × List (Option Nat))
  | hp, _, [] => some ([], hp, [])
  | hp, mu, a :: l => match mu.headD false with
    | true => match a with
      | .ptr r [] 0 0 => match root hp r with
        | some ⟨t, m, [x]⟩ => match focusL (hp.set r none) mu.tail l with
          | some (as, hp', rs) => some (.box m t x :: as, hp', some r :: rs)
          | none => none
        | _ => none
      | _ => none
    | false => match focusL hp mu.tail l with
      | some (as, hp', rs) => some (a :: as, hp', none :: rs)
      | none => none
def lendAll (hp : Heap Ty) : List (Option Nat) → List (AV Ty) → Option (List (AV Ty))
  | none :: rs, a :: l => match lend E hp a, lendAll hp rs l with
    | some b, some r => some (b :: r)
    | _, _ => none
  | some _ :: rs, a :: l => match lendAll hp rs l with
    | some r => some (a :: r)
    | none => none
  | [], [] => some []
  | _, _ => none
def anyLent : List (Option Nat) → List (AV Ty) → Bool
  | none :: rs, a :: l => isRef a || anyLent rs l
  | some _ :: rs, _ :: l => anyLent rs l
  | _, _ => false
def fr0 : AV Ty → Bool
  | .sl false _ _ => true
  | .sl true t _ => !E.sole t
  | .box false _ _ => true
  | .box true t _ => !E.sole t
  | .agg _ => true
  | .tup _ => true
  | _ => false
def fr1 : AV Ty → Bool
  | .agg cs => cs.any (fr0 E)
  | a => fr0 E a
def fr2 : AV Ty → Bool
  | .tup cs => cs.any (fr1 E)
  | a => fr1 E a
def deepBox : AV Ty → Bool
  | .box false _ _ => false
  | .box true t _ => E.sole t
  | _ => true
def restore : Heap Ty → List (Option Nat) → List (AV Ty) → Heap Ty
  | hp, some r :: rs, .box m t x :: l => restore (hp.set r (some ⟨t, m, [x]⟩)) rs l
  | hp, _ :: rs, _ :: l => restore hp rs l
  | hp, _, _ => hp
def killsOf : List (Option Nat) → List (Nat × Nat)
  | [] => []
  | some r :: l => (r, 1) :: killsOf l
  | none :: l => killsOf l
def callT (hp : Heap Ty) (mu : List Bool) (S : List (AV Ty) → T (AV Ty × List (AV Ty))) (args : List (AV Ty)) : T (EffR Ty) :=
  match focusL hp mu args with
  | some (as, hp1, rs) => match lendAll E hp1 rs as with
    | some bs => (S bs).bind fun p => match anyLent rs as && (fr2 E p.1 || !(bs.all (deepBox E))) with
      | false => match takeA (restore hp1 rs p.2) p.1 with
        | some (a, hp2) => .ret (a, hp2, killsOf rs)
        | none => .fail
      | true => .fail
    | none => .fail
  | none => .fail
variable {E}
variable {X : Set2} {W0 : World} {F F' : Set2} {w w' : World} {hp hp' : Heap Ty} {vals vals' : Nat → Value} {sets sets' : Nat → Set2} {P : Program} {ρ : Operand → Value}
/-- What the roots taken out are. -/
structure Foc (hp hp1 : Heap Ty) (args as : List (AV Ty)) (rs : List (Option Nat)) : Prop where
  l1 : as.length = args.length
  l2 : rs.length = args.length
  len : hp1.length = hp.length
  no : ∀ (i : Nat), rs[i]? = some none → as[i]? = args[i]?
  yes : ∀ (i r : Nat), rs[i]? = some (some r) → ∃ m t x, as[i]? = some (.box m t x) ∧ args[i]? = some (.ptr r [] 0 0) ∧ root hp r = some ⟨t, m, [x]⟩ ∧ root hp1 r = none
  sub : ∀ r R, root hp1 r = some R → root hp r = some R
  out : ∀ r R, root hp r = some R → root hp1 r = some R ∨ ∃ i : Nat, rs[i]? = some (some r)
  inj : ∀ (i i' r : Nat), rs[i]? = some (some r) → rs[i']? = some (some r) → i = i'
theorem focus_ok : ∀ (args : List (AV Ty)) (mu : List Bool) (hp hp1 : Heap Ty) (as : List (AV Ty)) (rs : List (Option Nat)), focusL hp mu args = some (as, hp1, rs) → Foc hp hp1 args as rs
  | [], mu, hp, hp1, as, rs, h => by
    unfold focusL at h
    cases h
    exact ⟨rfl, rfl, rfl, fun i h => rfl, fun i r h => by simp at h, fun _ _ h => h, fun _ _ h => .inl h, fun i i' r h => by simp at h⟩
  | a :: l, mu, hp, hp1, as, rs, h => by
    unfold focusL at h
    split at h
    · split at h
      · rename_i r
        split at h
        · rename_i t m x hr
          split at h
          · rename_i as' hp' rs' e
            cases h
            have ih := focus_ok l _ _ _ _ _ e
            have hlt := root_lt hr
            have hroot : ∀ r', root (hp.set r none) r' = if r = r' then none else root hp r' := by
              intro r'
              rw [root_set]
              split
              · simp
              · rfl
            have hnone : root hp1 r = none := by
              cases e' : root hp1 r with
              | none => rfl
              | some R => have := ih.sub _ _ e'; rw [hroot, if_pos rfl] at this; cases this
            refine ⟨by simp [ih.l1], by simp [ih.l2], by rw [ih.len, List.length_set], fun i h => ?_, fun i r' h => ?_, fun r' R h => ?_, fun r' R h => ?_, fun i i' r' h h' => ?_⟩
            · cases i with
              | zero => simp at h
              | succ i => exact ih.no i (by simpa using h)
            · cases i with
              | zero =>
                simp at h
                subst h
                exact ⟨m, t, x, rfl, rfl, hr, hnone⟩
              | succ i =>
                obtain ⟨m', t', x', k1, k2, k3, k4⟩ := ih.yes i r' (by simpa using h)
                rw [hroot] at k3
                split at k3
                · cases k3
                · exact ⟨m', t', x', by simpa using k1, by simpa using k2, k3, k4⟩
            · have := ih.sub _ _ h
              rw [hroot] at this
              split at this
              · cases this
              · exact this
            · by_cases e1 : r = r'
              · subst e1; exact .inr ⟨0, rfl⟩
              · rcases ih.out r' R (by rw [hroot, if_neg e1]; exact h) with h | ⟨i, h⟩
                · exact .inl h
                · exact .inr ⟨i + 1, by simpa using h⟩
            · have gone : ∀ (i : Nat), rs'[i]? = some (some r) → False := by
                intro i h
                obtain ⟨_, _, _, _, _, k3, _⟩ := ih.yes i r h
                rw [hroot, if_pos rfl] at k3
                cases k3
              cases i with
              | zero =>
                simp at h
                subst h
                cases i' with
                | zero => rfl
                | succ i' => exact (gone i' (by simpa using h')).elim
              | succ i =>
                cases i' with
                | zero =>
                  simp at h'
                  subst h'
                  exact (gone i (by simpa using h)).elim
                | succ i' => rw [ih.inj i i' r' (by simpa using h) (by simpa using h')]
          · cases h
        · cases h
      · cases h
    · split at h
      · rename_i as' hp' rs' e
        cases h
        have ih := focus_ok l _ _ _ _ _ e
        refine ⟨by simp [ih.l1], by simp [ih.l2], ih.len, fun i h => ?_, fun i r' h => ?_, ih.sub, fun r' R h => ?_, fun i i' r' h h' => ?_⟩
        · cases i with
          | zero => rfl
          | succ i => exact ih.no i (by simpa using h)
        · cases i with
          | zero => simp at h
          | succ i =>
            obtain ⟨m', t', x', k1, k2, k3, k4⟩ := ih.yes i r' (by simpa using h)
            exact ⟨m', t', x', by simpa using k1, by simpa using k2, k3, k4⟩
        · rcases ih.out r' R h with h | ⟨i, h⟩
          · exact .inl h
          · exact .inr ⟨i + 1, by simpa using h⟩
        · cases i with
          | zero => simp at h
          | succ i =>
            cases i' with
            | zero => simp at h'
            | succ i' => rw [ih.inj i i' r' (by simpa using h) (by simpa using h')]
      · cases h
theorem Rep.toRp {v : Value} {t : Nat} {xs : List (Ty t)} (h : Rep E F w v (.sl false t xs)) {b off n c i o : Nat} (hv : v = .slice (some ⟨b, off, none⟩) n c) (hi : i < xs.length) : Rep E F w (.pointer (some ⟨b, off + (i * szOf E t + o), none⟩)) (.rp t xs i o) := by
  cases h with
  | nil A c t => simp at hi
  | sl b' off' c' _ _ g h1 h2 h3 =>
    injection hv with e1 _ _
    injection e1 with e1
    injection e1 with e1 e2
    subst e1 e2
    exact .rp _ _ _ _ i o g hi h2 h3
theorem lend0_ok (G : Good E) (H : HRel E F w hp vals sets) {hp1 : Heap Ty} (hsub : ∀ r R, root hp1 r = some R → root hp r = some R) {F' : Set2} (hF : ∀ b j, F b j → F' b j) {v : Value} {a b : AV Ty} (hv : VRep E F w hp vals v a) (h : lend0 E hp1 a = some b)
    (hl : ref0 a = true → ∀ r R b j, root hp1 r = some R → sets r b j → F' b j) : Rep E F' w v b := by
  unfold lend0 at h
  split at h
  · cases h; have := hv.v; subst this; exact .v _
  · cases h; exact hv.sl.stable fun b j h => ⟨hF b j h, rfl⟩
  · cases h; exact hv.rp.stable fun b j h => ⟨hF b j h, rfl⟩
  · rename_i r p vw f
    split at h
    · rename_i R hR
      split at h
      · rename_i row hn
        cases h
        obtain ⟨R2, u, row2, k1, k2, k3⟩ := hv.ref'
        rw [hsub _ _ hR] at k1
        cases k1
        rw [k2.nav] at hn
        cases hn
        obtain ⟨S, hO, hS, _⟩ := focus G p (H.own r R (hsub _ _ hR)) k2
        obtain ⟨S', h1, h2⟩ := hO.view G k3
        exact h1.rep G hF (fun b j h => hl rfl r R b j hR (hS _ _ (h2 _ _ h)))
      · cases h
    · cases h
  · rename_i r p i o
    split at h
    · rename_i R hR
      split at h
      · rename_i row hn
        cases h
        obtain ⟨R2, b, off, c, row2, k1, k2, k3, rfl⟩ := hv.ptr'
        rw [hsub _ _ hR] at k1
        cases k1
        rw [k2.nav] at hn
        cases hn
        obtain ⟨S, hO, hS, _⟩ := focus G p (H.own r R (hsub _ _ hR)) k2
        have := hO.rep G hF (fun b j h => hl rfl r R b j hR (hS _ _ h))
        exact this.toRp rfl k3
      · cases h
    · cases h
  · cases h
theorem lendL_ok (G : Good E) (H : HRel E F w hp vals sets) {hp1 : Heap Ty} (hsub : ∀ r R, root hp1 r = some R → root hp r = some R) {F' : Set2} (hF : ∀ b j, F b j → F' b j) : ∀ {l r : List (AV Ty)}, lendL E hp1 l = some r → r.length = l.length ∧
    (l.any ref0 = true → ∀ r R b j, root hp1 r = some R → sets r b j → F' b j) → ∀ (i : Nat) v a b, l[i]? = some a → r[i]? = some b → VRep E F w hp vals v a → Rep E F' w v b
  | [], r, h, _ => fun i v a b e => by simp at e
  | c :: l, r, h, hl => by
    unfold lendL at h
    split at h
    · rename_i b' r' e1 e2
      cases h
      intro i v a b q1 q2 hv
      cases i with
      | zero =>
        cases q1; cases q2
        exact lend0_ok G H hsub hF hv e1 (fun hi => hl.2 (by simp only [List.any_cons, hi, Bool.true_or]))
      | succ i =>
        exact lendL_ok G H hsub hF e2 ⟨by have := hl.1; simpa using this, fun h => hl.2 (by simp only [List.any_cons, h, Bool.or_true])⟩ i v a b (by simpa using q1) (by simpa using q2) hv
    · cases h
theorem lend_ok (G : Good E) (H : HRel E F w hp vals sets) {hp1 : Heap Ty} (hsub : ∀ r R, root hp1 r = some R → root hp r = some R) {F' : Set2} (hF : ∀ b j, F b j → F' b j) {v : Value} {a b : AV Ty} (hv : VRep E F w hp vals v a) (h : lend E hp1 a = some b)
    (hl : isRef a = true → ∀ r R b j, root hp1 r = some R → sets r b j → F' b j) : Rep E F' w v b ∧ ∀ m t x, b ≠ .box m t x := by
  unfold lend at h
  split at h
  · rename_i cs
    split at h
    · rename_i r e
      cases h
      obtain ⟨vs, rfl, h1, h2⟩ := hv.agg'
      have hlen : ∀ {l r : List (AV Ty)}, lendL E hp1 l = some r → r.length = l.length := by
        intro l
        induction l with
        | nil => intro r h; cases h; rfl
        | cons c l ih =>
          intro r h
          unfold lendL at h
          split at h
          · rename_i e2; cases h; simp [ih e2]
          · cases h
      refine ⟨.agg vs r (by rw [h1, hlen e]) (fun i v b q1 q2 => ?_), fun m t x h => by cases h⟩
      have hi : i < cs.length := by rw [← h1]; exact (Array.getElem?_eq_some_iff.1 q1).1
      exact lendL_ok G H hsub hF e ⟨hlen e, hl⟩ i v _ b (List.getElem?_eq_getElem hi) q2 (h2 i v _ q1 (List.getElem?_eq_getElem hi))
    · cases h
  · rename_i hn
    have hr : isRef a = ref0 a := by cases a <;> first | rfl | exact absurd rfl (hn _)
    rw [hr] at hl
    refine ⟨lend0_ok G H hsub hF hv h hl, fun m t x hb => ?_⟩
    subst hb
    unfold lend0 at h
    split at h <;> first | cases h | (split at h <;> first | cases h | (split at h <;> cases h))
end
end Go.Proofs.Ytnibdgjlbhdmfaa.Ev
