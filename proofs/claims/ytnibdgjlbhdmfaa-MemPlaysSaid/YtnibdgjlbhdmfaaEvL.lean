/- Values laid into cells: roots that are handed over, or frozen. -/
import Derived.Test.YtnibdgjlbhdmfaaEvK
namespace Go.Proofs.Ytnibdgjlbhdmfaa.Ev
open Go
set_option linter.unusedVariables false
set_option linter.unusedSimpArgs false
section
variable {Ty : Nat → Type} {E : Tb Ty}
/-- Is a place's row owned? -/
def ownQ (m : Bool) (old : AV Ty) : Bool := match old with
  | .sl false _ _ => false
  | _ => m
theorem ownQ_m {m : Bool} {old : AV Ty} (h : ownQ m old = true) : m = true := by
  unfold ownQ at h
  split at h
  · cases h
  · exact h
def toCell (m : Bool) (hp : Heap Ty) (old a : AV Ty) : Option (AV Ty × Heap Ty × List (Nat × Nat)) := match a with
  | .v x => match old with
    | .sl _ t _ => match x with
      | .slice none 0 0 => some (.sl (ownQ m old) t [], hp, [])
      | _ => none
    | _ => match oneC x with
      | true => some (.v x, hp, [])
      | false => none
  | .sl false t ys => match ownQ m old with
    | false => some (.sl false t ys, hp, [])
    | true => none
  | .ref r [] vw _ => match root hp r with
    | some R => match ownQ m old with
      | false => some (.sl false R.t (view R.xs vw), hp.set r none, [(r, 0)])
      | true => match R.m with
        | true => some (.sl true R.t (view R.xs vw), hp.set r none, [(r, 0)])
        | false => none
    | none => none
  | _ => none
def toCells (m : Bool) : Heap Ty → List (AV Ty) → List (AV Ty) → Option (List (AV Ty) × Heap Ty × List (Nat × Nat))
  | hp, _, [] => some ([], hp, [])
  | hp, olds, a :: l => match toCell m hp (olds.headD .dead) a with
    | some (c, hp', ks) => match toCells m hp' olds.tail l with
      | some (cs, hp'', ks') => some (c :: cs, hp'', ks ++ ks')
      | none => none
    | none => none
variable {F F' : Set2} {w w' : World} {vals vals' : Nat → Value} {sets : Nat → Set2}
theorem root_set {hp : Heap Ty} {r r' : Nat} {x : Option (Root Ty)} : root (hp.set r x) r' = if r = r' then (if r < hp.length then x else none) else root hp r' := by
  unfold root
  rw [List.getElem?_set]
  by_cases h : r = r'
  · subst h
    rw [if_pos rfl, if_pos rfl]
    by_cases h2 : r < hp.length
    · rw [if_pos h2, if_pos h2]
    · rw [if_neg h2, if_neg h2]
  · rw [if_neg h, if_neg h]
theorem root_lt {hp : Heap Ty} {r : Nat} {R : Root Ty} (h : root hp r = some R) : r < hp.length := by
  unfold root at h
  split at h
  · rename_i x e; exact get_lt e
  · cases h
/-- A part of an owned row is an owned row. -/
theorem Own.view (G : Good E) {m : Bool} {u v : Value} {t : Nat} {xs : List (Ty t)} {S : Set2} {vw : Option (Nat × Nat)} {full : Bool} (h : Own E F w m u t xs S) (hv : ViewOk (szOf E t) xs.length u vw full v) :
    ∃ S', Own E F w m v t (Ev.view xs vw) S' ∧ ∀ b j, S' b j → S b j := by
  cases vw with
  | none => obtain ⟨rfl, _⟩ := hv; exact ⟨S, h, fun _ _ h => h⟩
  | some ok =>
    obtain ⟨o, k⟩ := ok
    obtain ⟨h1, ⟨rfl, A, rfl⟩ | ⟨b, off, c, c', rfl, rfl, h2, h3, h4⟩⟩ := hv
    · refine ⟨fun _ _ => False, ?_, fun _ _ h => h.elim⟩
      have : Ev.view xs (some (o, 0)) = [] := rfl
      rw [this]
      exact .nil A t _ (fun _ _ h => h)
    · rcases h.inv with ⟨⟨A, e⟩, e2, _⟩ | ⟨b', off', c1, g, B, e, R⟩
      · injection e with _ _ e3
        subst e3
        have hk : k = 0 := by omega
        subst hk
        have ho : o = 0 := by omega
        have hc' : c' = 0 := by omega
        subst hc'
        refine ⟨fun _ _ => False, ?_, fun _ _ h => h.elim⟩
        have : Ev.view xs (some (o, 0)) = [] := rfl
        rw [this]
        exact .nil _ t _ (fun _ _ h => h)
      · injection e with e1 _ e3
        injection e1 with e1
        injection e1 with e1 e4
        subst e1 e4 e3
        have hlen : (Ev.view xs (some (o, k))).length = k := by simp [Ev.view]; omega
        have hget : ∀ (i : Nat) x, (Ev.view xs (some (o, k)))[i]? = some x → i < k ∧ xs[o + i]? = some x := by
          intro i x e
          unfold Ev.view at e
          simp only at e
          rw [List.getElem?_take] at e
          split at e
          · rw [List.getElem?_drop] at e; exact ⟨‹_›, e⟩
          · cases e
        have hmul : o * szOf E t + c' * szOf E t ≤ c * szOf E t := by rw [← Nat.add_mul]; exact Nat.mul_le_mul_right _ h3
        have key := OwnR.toOwn (E := E) (F := F) (w := w) (m := m) (b := b) (off := off + o * szOf E t) (c := c') (t := t) (xs := Ev.view xs (some (o, k))) (g := fun i q => g (o + i) q)
          (B := fun i q b' j => i < k ∧ B (o + i) q b' j) (S := fun b' j => (b' = b ∧ off + o * szOf E t ≤ j ∧ j < off + o * szOf E t + c' * szOf E t) ∨ ∃ i q, i < k ∧ B (o + i) q b' j)
          ⟨by omega, fun j hj => by
            have := R.cap (o * szOf E t + j) (by omega)
            rw [← Nat.add_assoc] at this
            exact this,
          fun i x q a e1 e2 => by
            have := R.cell _ _ _ _ (hget i x e1).2 e2
            rw [Nat.add_mul] at this
            rw [show off + o * szOf E t + (i * szOf E t + q) = off + (o * szOf E t + i * szOf E t + q) by omega]
            exact this,
          fun i x q a e1 e2 e3 => R.rep _ _ _ _ (hget i x e1).2 e2 e3,
          fun i x q t' ys e1 e2 => (R.own _ _ _ _ _ (hget i x e1).2 e2).congr fun b j => ⟨fun h => h.2, fun h => ⟨(hget i x e1).1, h⟩⟩,
          fun i q i' q' b' j' e1 e2 => by have := R.dj _ _ _ _ _ _ e1.2 e2.2; omega,
          fun i q j hj e => by
            have := R.dr (o + i) q (o * szOf E t + j) (by omega)
            rw [← Nat.add_assoc] at this
            exact this e.2,
          fun i q b' j' e => by
            obtain ⟨x, t', ys, e1, e2⟩ := R.rg _ _ _ _ e.2
            refine ⟨x, t', ys, ?_, e2⟩
            unfold Ev.view
            simp only
            rw [List.getElem?_take, if_pos e.1, List.getElem?_drop]
            exact e1,
          fun b' j' => Iff.rfl⟩
        rw [hlen] at key
        refine ⟨_, key, fun b' j' h => (R.iff _ _).2 ?_⟩
        rcases h with ⟨e1, e2, e3⟩ | ⟨i, q, _, h⟩
        · exact .inl ⟨e1, by omega, by omega⟩
        · exact .inr ⟨_, _, h⟩
/-- What stays true of the heap while some roots are handed over. -/
structure Less (F F' : Set2) (sets : Nat → Set2) (hp hp' : Heap Ty) (ks : List (Nat × Nat)) : Prop where
  sub : ∀ r R, root hp' r = some R → root hp r = some R
  out : ∀ r R, root hp r = some R → root hp' r = some R ∨ (root hp' r = none ∧ (r, 0) ∈ ks)
  inc : ∀ b j, F b j → F' b j
  fro : ∀ b j, F' b j → F b j ∨ ∃ r R, root hp r = some R ∧ root hp' r = none ∧ sets r b j
  len : hp'.length = hp.length
theorem Less.refl (F : Set2) (sets : Nat → Set2) (hp : Heap Ty) : Less F F sets hp hp [] := ⟨fun _ _ h => h, fun _ _ h => .inl h, fun _ _ h => h, fun _ _ h => .inl h, rfl⟩
theorem Less.trans {F'' : Set2} {hp hp' hp'' : Heap Ty} {ks ks' : List (Nat × Nat)} (h : Less F F' sets hp hp' ks) (k : Less F' F'' sets hp' hp'' ks') : Less F F'' sets hp hp'' (ks ++ ks') where
  sub := fun r R e => h.sub _ _ (k.sub _ _ e)
  out := fun r R e => by
    rcases h.out _ _ e with h1 | ⟨h1, h2⟩
    · rcases k.out _ _ h1 with k1 | ⟨k1, k2⟩
      · exact .inl k1
      · exact .inr ⟨k1, by simp [k2]⟩
    · refine .inr ⟨?_, by simp [h2]⟩
      cases e' : root hp'' r with
      | none => rfl
      | some R' => have := k.sub _ _ e'; rw [h1] at this; cases this
  inc := fun b j e => k.inc _ _ (h.inc _ _ e)
  fro := fun b j e => by
    rcases k.fro _ _ e with e | ⟨r, R, e1, e2, e3⟩
    · rcases h.fro _ _ e with e | ⟨r, R, e1, e2, e3⟩
      · exact .inl e
      · refine .inr ⟨r, R, e1, ?_, e3⟩
        cases e' : root hp'' r with
        | none => rfl
        | some R' => have := k.sub _ _ e'; rw [e2] at this; cases this
    · exact .inr ⟨r, R, h.sub _ _ e1, e2, e3⟩
  len := k.len.trans h.len
theorem toCell_ok (G : Good E) {m : Bool} {F0 : Set2} {hp0 hp hp' : Heap Ty} {ks : List (Nat × Nat)} {old a c : AV Ty} {v : Value} (H : HRel E F w hp vals sets) (hsub : ∀ r R, root hp r = some R → root hp0 r = some R) (hF : ∀ b j, F0 b j → F b j)
    (hv : VRep E F0 w hp0 vals v a) (h : toCell m hp old a = some (c, hp', ks)) :
    ∃ F' B, HRel E F' w hp' vals sets ∧ Less F F' sets hp hp' ks ∧ oneC v = true ∧ (¬ isOwn c → Rep E F' w v c) ∧ (∀ t ys, c = .sl true t ys → Own E F' w m v t ys B) ∧
      (∀ b j, B b j → isOwn c ∧ ¬ F' b j ∧ ∃ r R, root hp r = some R ∧ root hp' r = none ∧ sets r b j) := by
  unfold toCell at h
  split at h
  · rename_i x
    have e := hv.v
    subst e
    split at h
    · rename_i t
      split at h
      · cases h
        refine ⟨F, fun _ _ => False, H, .refl _ _ _, rfl, fun hn => ?_, fun t' ys e => ?_, fun b j h => h.elim⟩
        · revert hn
          generalize ownQ m _ = q
          intro hn
          cases q
          · exact .nil _ _ _
          · exact absurd trivial hn
        · injection e with e1 e2 e3
          subst e2
          cases e3
          exact .nil _ _ _ (fun _ _ h => h)
      · cases h
    · split at h
      · rename_i ho
        cases h
        exact ⟨F, fun _ _ => False, H, .refl _ _ _, ho, fun _ => .v _, fun t ys e => (by cases e), fun b j h => h.elim⟩
      · cases h
  · rename_i t ys
    split at h
    · cases h
      have hr := hv.sl
      obtain ⟨A, n, e⟩ := hr.slen
      exact ⟨F, fun _ _ => False, H, .refl _ _ _, by rw [e]; rfl, fun _ => hr.stable fun b j h => ⟨hF b j h, rfl⟩, fun t ys e => (by cases e), fun b j h => h.elim⟩
    · cases h
  · rename_i r vw full
    obtain ⟨R0, u, row, k1, k2, k3⟩ := hv.ref'
    split at h
    · rename_i R hR
      have hR0 := hsub r R hR
      rw [k1] at hR0
      cases hR0
      obtain ⟨rfl, rfl⟩ := k2
      have hO := H.own r R0 hR
      have hlt := root_lt hR
      have hroot : ∀ r', root (hp.set r none) r' = if r = r' then none else root hp r' := by
        intro r'
        rw [root_set]
        split
        · simp
        · rfl
      have hone : oneC v = true := by
        obtain ⟨A, n, e⟩ := ViewOk.len k3 (by obtain ⟨A, n, e⟩ := hO.head; exact ⟨A, n, e⟩) (xs := R0.xs) rfl
        rw [e]; rfl
      have less : ∀ F', (∀ b j, F b j → F' b j) → (∀ b j, F' b j → F b j ∨ sets r b j) → Less F F' sets hp (hp.set r none) [(r, 0)] := fun F' h1 h2 => {
        sub := fun r' R e => by rw [hroot] at e; split at e <;> simp_all
        out := fun r' R e => by
          rw [hroot]
          by_cases e' : r = r'
          · subst e'; exact .inr ⟨if_pos rfl, by simp⟩
          · rw [if_neg e']; exact .inl e
        inc := h1
        fro := fun b j e => by
          rcases h2 b j e with e | e
          · exact .inl e
          · exact .inr ⟨r, R0, hR, by rw [hroot, if_pos rfl], e⟩
        len := List.length_set }
      have hrel : ∀ F', (∀ b j, F b j → F' b j) → (∀ b j, F' b j → F b j ∨ sets r b j) → HRel E F' w (hp.set r none) vals sets := fun F' h1 h2 => {
        own := fun r' R' e => by
          rw [hroot] at e
          split at e
          · cases e
          · rename_i hne
            refine (H.own r' R' e).stable G (fun b j h => ⟨h1 b j h, rfl⟩) (fun b j h => ⟨rfl, rfl⟩) (fun b j hs hf => ?_)
            rcases h2 b j hf with h | h
            · exact h
            · exact absurd (H.dj _ _ _ _ hR e b j h hs) hne
        dj := fun r1 r2 R1 R2 e1 e2 b j h1 h2 => by
          rw [hroot] at e1 e2
          split at e1
          · cases e1
          · split at e2
            · cases e2
            · exact H.dj _ _ _ _ e1 e2 b j h1 h2 }
      split at h
      · cases h
        refine ⟨fun b j => F b j ∨ sets r b j, fun _ _ => False, hrel _ (fun _ _ h => .inl h) (fun _ _ h => h), less _ (fun _ _ h => .inl h) (fun _ _ h => h), hone, fun _ => ?_, fun t ys e => (by cases e), fun b j h => h.elim⟩
        obtain ⟨S', h1, h2⟩ := hO.view G k3
        exact h1.rep G (fun _ _ h => .inl h) (fun b j h => .inr (h2 b j h))
      · rename_i hq
        have hmm := ownQ_m hq
        subst hmm
        split at h
        · rename_i hm
          cases h
          obtain ⟨S', h1, h2⟩ := hO.view G k3
          rw [hm] at h1
          refine ⟨F, S', hrel _ (fun _ _ h => h) (fun _ _ h => .inl h), less _ (fun _ _ h => h) (fun _ _ h => .inl h), hone, fun hn => absurd trivial hn, fun t ys e => ?_, fun b j h => ⟨trivial, (h1.free b j h).2.2, r, R0, hR, by rw [hroot, if_pos rfl], h2 b j h⟩⟩
          injection e with e1 e2 e3
          subst e2
          cases e3
          exact h1
        · cases h
    · cases h
  · cases h
theorem toCells_ok (G : Good E) {m : Bool} {F0 : Set2} {hp0 : Heap Ty} : ∀ (as olds : List (AV Ty)) (F : Set2) (hp hp' : Heap Ty) (ks : List (Nat × Nat)) (cs : List (AV Ty)) (vs : List Value), HRel E F w hp vals sets → (∀ r R, root hp r = some R → root hp0 r = some R) → (∀ b j, F0 b j → F b j) →
    CRep E F0 w hp0 vals vs as → toCells m hp olds as = some (cs, hp', ks) →
    ∃ F' Bn, HRel E F' w hp' vals sets ∧ Less F F' sets hp hp' ks ∧ Fresh E F' w m vs cs Bn ∧ cs.length = as.length ∧ (∀ k b j, Bn k b j → ¬ F' b j ∧ ∃ r R, root hp r = some R ∧ root hp' r = none ∧ sets r b j)
  | [], olds, F, hp, hp', ks, cs, vs, H, hsub, hF, hv, h => by
    cases h
    have : vs = [] := List.length_eq_zero_iff.1 hv.1
    subst this
    exact ⟨F, fun _ _ _ => False, H, .refl _ _ _, ⟨rfl, by simp, fun k v a e => by simp at e, fun k v t ys e => by simp at e, fun k k' b j h => h.elim, fun k b j h => h.elim⟩, rfl, fun k b j h => h.elim⟩
  | a :: as, olds, F, hp, hp', ks, cs, vs, H, hsub, hF, hv, h => by
    unfold toCells at h
    split at h
    · rename_i c hp1 ks1 e1
      split at h
      · rename_i cs1 hp2 ks2 e2
        cases h
        cases vs with
        | nil => have := hv.1; simp at this
        | cons v vs =>
          obtain ⟨F1, B, H1, L1, o1, r1, w1, b1⟩ := toCell_ok G H hsub hF (hv.2 0 v a rfl rfl) e1
          obtain ⟨F2, Bn, H2, L2, f2, l2, b2⟩ := toCells_ok G as olds.tail F1 hp1 hp' ks2 cs1 vs H1 (fun r R e => hsub _ _ (L1.sub _ _ e)) (fun b j h => L1.inc _ _ (hF _ _ h)) ⟨by have := hv.1; simpa using this, fun i v' a' q1 q2 => hv.2 (i + 1) v' a' (by simpa using q1) (by simpa using q2)⟩ e2
          have gone : ∀ r, root hp1 r = none → root hp' r = none := fun r e => by
            cases e' : root hp' r with
            | none => rfl
            | some R => have := L2.sub _ _ e'; rw [e] at this; cases this
          have hB2 : ∀ b j, B b j → ¬ F2 b j := by
            intro b j hb h2
            obtain ⟨_, h3, r, R, h4, h5, h6⟩ := b1 b j hb
            rcases L2.fro _ _ h2 with h | ⟨r', R', q1, q2, q3⟩
            · exact h3 h
            · have := H.dj _ _ _ _ h4 (L1.sub _ _ q1) b j h6 q3
              subst this
              rw [h5] at q1
              cases q1
          refine ⟨F2, fun k b j => match k with | 0 => B b j | k + 1 => Bn k b j, H2, L1.trans L2, ⟨by simp [f2.len], ?_, ?_, ?_, ?_, ?_⟩, by simp [l2], ?_⟩
          · intro v' hv'
            rcases List.mem_cons.1 hv' with rfl | h
            · exact o1
            · exact f2.one _ h
          · intro k v' a' q1 q2 q3
            cases k with
            | zero => cases q1; cases q2; exact (r1 q3).stable fun b j h => ⟨L2.inc _ _ h, rfl⟩
            | succ k => exact f2.rep k v' a' (by simpa using q1) (by simpa using q2) q3
          · intro k v' t ys q1 q2
            cases k with
            | zero =>
              cases q1
              cases q2
              exact (w1 t ys rfl).stable G (fun b j h => ⟨L2.inc _ _ h, rfl⟩) (fun b j h => ⟨rfl, rfl⟩) (fun b j hb h2 => absurd h2 (hB2 _ _ hb))
            | succ k => exact f2.own k v' t ys (by simpa using q1) (by simpa using q2)
          · intro k k' b j q1 q2
            cases k with
            | zero =>
              cases k' with
              | zero => rfl
              | succ k' =>
                obtain ⟨_, _, r, R, h4, h5, h6⟩ := b1 b j q1
                obtain ⟨_, r', R', q3, q4, q5⟩ := b2 k' b j q2
                have := H.dj _ _ _ _ h4 (L1.sub _ _ q3) b j h6 q5
                subst this
                rw [h5] at q3
                cases q3
            | succ k =>
              cases k' with
              | zero =>
                obtain ⟨_, _, r, R, h4, h5, h6⟩ := b1 b j q2
                obtain ⟨_, r', R', q3, q4, q5⟩ := b2 k b j q1
                have := H.dj _ _ _ _ h4 (L1.sub _ _ q3) b j h6 q5
                subst this
                rw [h5] at q3
                cases q3
              | succ k' => have := f2.dj _ _ _ _ q1 q2; omega
          · intro k b j q
            cases k with
            | zero =>
              obtain ⟨h1, _⟩ := b1 b j q
              cases c with
              | sl o t ys =>
                cases o with
                | true => exact ⟨t, ys, rfl⟩
                | false => exact h1.elim
              | _ => exact h1.elim
            | succ k => obtain ⟨t, ys, h⟩ := f2.rg k b j q; exact ⟨t, ys, by simpa using h⟩
          · intro k b j q
            cases k with
            | zero =>
              obtain ⟨_, _, r, R, h4, h5, h6⟩ := b1 b j q
              exact ⟨hB2 _ _ q, r, R, h4, gone _ h5, h6⟩
            | succ k =>
              obtain ⟨h1, r', R', q3, q4, q5⟩ := b2 k b j q
              exact ⟨h1, r', R', L1.sub _ _ q3, q4, q5⟩
      · cases h
    · cases h
end
end Go.Proofs.Ytnibdgjlbhdmfaa.Ev
