/- What a function hands back: roots become results. -/
import Derived.Test.YtnibdgjlbhdmfaaEvX
namespace Go.Proofs.Ytnibdgjlbhdmfaa.Ev
open Go
set_option linter.unusedVariables false
set_option linter.unusedSimpArgs false
/-- How a result is wanted. -/
inductive Want where
  | keep
  | own (t : Nat)
  | fro (t : Nat)
  | list (l : List Want)
instance : Inhabited Want := ⟨.keep⟩
section
variable {Ty : Nat → Type} (E : Tb Ty)
def give0 (nf : Nat) (q : Want) (hp : Heap Ty) : AV Ty → Option (AV Ty × Heap Ty)
  | .v x => match x with
    | .slice none 0 0 => match q with
      | .own t => some (.sl true t [], hp)
      | .fro t => some (.sl false t [], hp)
      | _ => some (.v x, hp)
    | x => some (.v x, hp)
  | .sl false t xs => some (.sl false t xs, hp)
  | .ref r [] vw _ => match root hp r, Nat.ble nf r with
    | some R, true => match R.m, q with
      | true, .keep => some (.sl true R.t (view R.xs vw), hp.set r none)
      | true, .own _ => some (.sl true R.t (view R.xs vw), hp.set r none)
      | _, _ => some (.sl false R.t (view R.xs vw), hp.set r none)
    | _, _ => none
  | .ptr r [] 0 0 => match root hp r, Nat.ble nf r with
    | some ⟨t, m, [x]⟩, true => some (.box m t x, hp.set r none)
    | _, _ => none
  | _ => none
def wants : Want → List Want
  | .list l => l
  | _ => []
def giveL (f : Want → Heap Ty → AV Ty → Option (AV Ty × Heap Ty)) : List Want → Heap Ty → List (AV Ty) → Option (List (AV Ty) × Heap Ty)
  | _, hp, [] => some ([], hp)
  | qs, hp, a :: l => match f (qs.headD .keep) hp a with
    | some (b, hp1) => match giveL f qs.tail hp1 l with
      | some (r, hp2) => some (b :: r, hp2)
      | none => none
    | none => none
def give1 (nf : Nat) (q : Want) (hp : Heap Ty) : AV Ty → Option (AV Ty × Heap Ty)
  | .agg cs => match giveL (give0 nf) (wants q) hp cs with
    | some (r, hp') => some (.agg r, hp')
    | none => none
  | a => give0 nf q hp a
def give2 (nf : Nat) (q : Want) (hp : Heap Ty) : AV Ty → Option (AV Ty × Heap Ty)
  | .tup cs => match giveL (give1 nf) (wants q) hp cs with
    | some (r, hp') => some (.tup r, hp')
    | none => none
  | a => give1 nf q hp a
variable {E}
variable {X : Set2} {W0 : World} {F0 F F' : Set2} {w w' : World} {hp hp' : Heap Ty} {vals vals' : Nat → Value} {sets sets' : Nat → Set2} {P : Program}
theorem ResOk.grow (G : Good E) (hF : ∀ b j, F b j → F' b j) {v : Value} {a : AV Ty} {S : Set2} (h : ResOk E F w v a S) : (∀ b j, S b j → F' b j → F b j) → ResOk E F' w v a S := by
  induction h with
  | v x S h => exact fun _ => .v x S h
  | fr v t xs S h1 h2 => exact fun _ => .fr v t xs S (h1.stable fun b j h => ⟨hF b j h, rfl⟩) h2
  | own v t xs S h => exact fun hS => .own v t xs S (h.stable (w := w) (w' := w) G (fun b j h => ⟨hF b j h, rfl⟩) (fun _ _ _ => ⟨rfl, rfl⟩) hS)
  | box b off c m t x S h => exact fun hS => .box b off c m t x S (h.stable (w := w) (w' := w) G (fun b j h => ⟨hF b j h, rfl⟩) (fun _ _ _ => ⟨rfl, rfl⟩) hS)
  | agg vs cs B S h1 h2 h3 h4 ih => exact fun hS => .agg vs cs B S h1 (fun i v a e1 e2 => ih i v a e1 e2 fun b j hb => hS b j (h4 _ _ _ hb).2) h3 h4
  | tup vs cs B S h1 h2 h3 h4 ih => exact fun hS => .tup vs cs B S h1 (fun i v a e1 e2 => ih i v a e1 e2 fun b j hb => hS b j (h4 _ _ _ hb).2) h3 h4
/-- What giving back comes to. -/
def Gave (E : Tb Ty) (nf : Nat) (w : World) (F : Set2) (hp : Heap Ty) (vals : Nat → Value) (sets : Nat → Set2) (v : Value) (a' : AV Ty) (hp' : Heap Ty) : Prop :=
  ∃ F' S, HRel E F' w hp' vals sets ∧ (∃ ks, Less F F' sets hp hp' ks) ∧ ResOk E F' w v a' S ∧ (∀ b j, S b j → ¬ F' b j ∧ ∃ r R, root hp r = some R ∧ root hp' r = none ∧ sets r b j) ∧ ∀ r, r < nf → root hp' r = root hp r
def GiveOk (E : Tb Ty) (nf : Nat) (f : Want → Heap Ty → AV Ty → Option (AV Ty × Heap Ty)) : Prop :=
  ∀ (w : World) (F0 F : Set2) (hp0 hp hp' : Heap Ty) (vals : Nat → Value) (sets : Nat → Set2) (q : Want) (v : Value) (a a' : AV Ty), HRel E F w hp vals sets → (∀ r R, root hp r = some R → root hp0 r = some R) → (∀ b j, F0 b j → F b j) → VRep E F0 w hp0 vals v a → f q hp a = some (a', hp') → Gave E nf w F hp vals sets v a' hp'
theorem Gave.same {nf : Nat} (H : HRel E F w hp vals sets) {v : Value} {a : AV Ty} (h : ResOk E F w v a fun _ _ => False) : Gave E nf w F hp vals sets v a hp :=
  ⟨F, fun _ _ => False, H, ⟨[], .refl _ _ _⟩, h, fun _ _ h => h.elim, fun _ _ => rfl⟩
theorem HRel.free (H : HRel E F w hp vals sets) {r : Nat} : HRel E F w (hp.set r none) vals sets := by
  have hroot : ∀ r', root (hp.set r none) r' = if r = r' then none else root hp r' := by
    intro r'
    rw [root_set]
    split
    · simp
    · rfl
  refine ⟨fun r' R h => ?_, fun r1 r2 R1 R2 h1 h2 => ?_⟩
  · rw [hroot] at h
    split at h
    · cases h
    · exact H.own r' R h
  · rw [hroot] at h1 h2
    split at h1
    · cases h1
    · split at h2
      · cases h2
      · exact H.dj r1 r2 R1 R2 h1 h2
theorem root_free {r r' : Nat} : root (hp.set r none) r' = if r = r' then none else root hp r' := by
  rw [root_set]
  split
  · simp
  · rfl
theorem Less.free (F : Set2) (sets : Nat → Set2) (r : Nat) : Less F F sets hp (hp.set r none) [(r, 0)] := by
  refine ⟨fun r' R h => ?_, fun r' R h => ?_, fun _ _ h => h, fun _ _ h => .inl h, by simp⟩
  · rw [root_free] at h
    split at h
    · cases h
    · exact h
  · rw [root_free]
    by_cases e : r = r'
    · subst e; rw [if_pos rfl]; exact .inr ⟨rfl, by simp⟩
    · rw [if_neg e]; exact .inl h
/-- One root frozen and gone. -/
theorem freeze_ok (G : Good E) (H : HRel E F w hp vals sets) {r : Nat} {R : Root Ty} (hR : root hp r = some R) {v : Value} {vw : Option (Nat × Nat)} {full : Bool} (hv : ViewOk (szOf E R.t) R.xs.length (vals r) vw full v) :
    ∃ F', HRel E F' w (hp.set r none) vals sets ∧ Less F F' sets hp (hp.set r none) [(r, 0)] ∧ Rep E F' w v (.sl false R.t (view R.xs vw)) := by
  obtain ⟨S', hO, hS⟩ := (H.own r R hR).view G hv
  obtain ⟨F', hF'⟩ : ∃ F' : Set2, ∀ b j, F' b j ↔ F b j ∨ sets r b j := ⟨fun b j => F b j ∨ sets r b j, fun _ _ => Iff.rfl⟩
  refine ⟨F', ⟨fun r' R' h => ?_, H.free.dj⟩, ?_, hO.rep G (fun b j h => (hF' b j).2 (.inl h)) fun b j h => (hF' b j).2 (.inr (hS _ _ h))⟩
  · rw [root_free] at h
    split at h
    · cases h
    · rename_i e
      refine (H.own r' R' h).stable (w := w) (w' := w) G (fun b j h => ⟨(hF' b j).2 (.inl h), rfl⟩) (fun _ _ _ => ⟨rfl, rfl⟩) fun b j s hf => ?_
      rcases (hF' b j).1 hf with hf | hf
      · exact hf
      · exact absurd (H.dj _ _ _ _ hR h b j hf s) e
  · have L := Less.free (hp := hp) F sets r
    refine ⟨L.sub, L.out, fun b j h => (hF' b j).2 (.inl h), fun b j h => ?_, L.len⟩
    rcases (hF' b j).1 h with h | h
    · exact .inl h
    · exact .inr ⟨r, R, hR, by rw [root_free, if_pos rfl], h⟩
theorem free_gave (G : Good E) {nf : Nat} (H : HRel E F w hp vals sets) {r : Nat} {R : Root Ty} (hR : root hp r = some R) (hn : Nat.ble nf r = true) {v : Value} {a : AV Ty} {S : Set2} (hS : ∀ b j, S b j → sets r b j) (h : ResOk E F w v a S) : Gave E nf w F hp vals sets v a (hp.set r none) :=
  ⟨F, S, H.free, ⟨_, .free F sets r⟩, h, fun b j s => ⟨((H.own r R hR).free b j (hS _ _ s)).2.2, r, R, hR, by rw [root_free, if_pos rfl], hS _ _ s⟩, fun r' h' => by rw [root_free, if_neg (by have := Nat.le_of_ble_eq_true hn; omega)]⟩
theorem give0_ok (G : Good E) (nf : Nat) : GiveOk E nf (give0 (Ty := Ty) nf) := by
  intro w F0 F hp0 hp hp' vals sets q v a a' H hsub hF hv h
  unfold give0 at h
  split at h
  · rename_i x
    have e := hv.v
    subst e
    split at h
    · split at h
      · cases h; exact .same H (.own _ _ _ _ (.nil _ _ _ fun _ _ h => h))
      · cases h; exact .same H (.fr _ _ _ _ (.nil _ _ _) fun _ _ h => h)
      · cases h; exact .same H (.v _ _ fun _ _ h => h)
    · cases h; exact .same H (.v _ _ fun _ _ h => h)
  · cases h
    exact .same H (.fr _ _ _ _ (hv.sl.stable fun b j h => ⟨hF b j h, rfl⟩) fun _ _ h => h)
  · rename_i r vw full
    obtain ⟨R0, u, row, k1, k2, k3⟩ := hv.ref'
    split at h
    · rename_i R hR hn
      have hR0 := hsub r R hR
      rw [k1] at hR0
      cases hR0
      obtain ⟨rfl, rfl⟩ := k2
      obtain ⟨S', hO, hS⟩ := (H.own r R0 hR).view G k3
      have own : R0.m = true → Gave E nf w F hp vals sets v (.sl true R0.t (view R0.xs vw)) (hp.set r none) := fun hm => by
        rw [hm] at hO
        exact free_gave G H hR hn hS (.own _ _ _ _ hO)
      split at h
      · cases h; exact own (by assumption)
      · cases h; exact own (by assumption)
      · cases h
        obtain ⟨F', h1, h2, h3⟩ := freeze_ok G H hR k3
        exact ⟨F', fun _ _ => False, h1, ⟨_, h2⟩, .fr _ _ _ _ h3 fun _ _ h => h, fun _ _ h => h.elim, fun r' h' => by rw [root_free, if_neg (by have := Nat.le_of_ble_eq_true hn; omega)]⟩
    · cases h
  · rename_i r
    obtain ⟨R0, b, off, c, row, k1, k2, k3, rfl⟩ := hv.ptr'
    split at h
    · rename_i t m x hR hn
      cases h
      have hR0 := hsub r _ hR
      rw [k1] at hR0
      cases hR0
      obtain ⟨e1, rfl⟩ := k2
      have hO := H.own r _ hR
      rw [← e1] at hO
      have := free_gave G H hR hn (fun b j h => h) (.box b off c m t x _ hO)
      simpa using this
    · cases h
  · cases h
theorem giveL_ok (G : Good E) {nf : Nat} {f : Want → Heap Ty → AV Ty → Option (AV Ty × Heap Ty)} (hf : GiveOk E nf f) (w : World) (F0 : Set2) (hp0 : Heap Ty) (vals : Nat → Value) (sets : Nat → Set2) : ∀ (l : List (AV Ty)) (vs : List Value) (qs : List Want) (F : Set2) (hp hp' : Heap Ty) (r : List (AV Ty)),
    HRel E F w hp vals sets → (∀ r R, root hp r = some R → root hp0 r = some R) → (∀ b j, F0 b j → F b j) → vs.length = l.length → (∀ (i : Nat) v a, vs[i]? = some v → l[i]? = some a → VRep E F0 w hp0 vals v a) → giveL f qs hp l = some (r, hp') →
    ∃ (F' : Set2) (B : Nat → Set2), HRel E F' w hp' vals sets ∧ (∃ ks, Less F F' sets hp hp' ks) ∧ r.length = l.length ∧ (∀ (i : Nat) v a, vs[i]? = some v → r[i]? = some a → ResOk E F' w v a (B i)) ∧ (∀ i j b o, B i b o → B j b o → i = j) ∧ (∀ i b j, B i b j → i < r.length ∧ ¬ F' b j ∧ ∃ q R, root hp q = some R ∧ root hp' q = none ∧ sets q b j) ∧ ∀ r, r < nf → root hp' r = root hp r
  | [], vs, qs, F, hp, hp', r, H, hsub, hF, hl, hv, h => by
    cases h
    exact ⟨F, fun _ _ _ => False, H, ⟨_, .refl _ _ _⟩, rfl, fun i v a _ e => by simp at e, fun i j b o h => h.elim, fun i b j h => h.elim, fun _ _ => rfl⟩
  | a :: l, [], qs, F, hp, hp', r, H, hsub, hF, hl, hv, h => by simp at hl
  | a :: l, v :: vs, qs, F, hp, hp', r, H, hsub, hF, hl, hv, h => by
    unfold giveL at h
    split at h
    · rename_i b1 hp1 e1
      split at h
      · rename_i r' hp2 e2
        cases h
        obtain ⟨F1, S1, H1, ⟨ks1, L1⟩, R1, S1ok, N1⟩ := hf w F0 F hp0 hp hp1 vals sets _ v a b1 H hsub hF (hv 0 v a rfl rfl) e1
        obtain ⟨F2, B, H2, ⟨ks2, L2⟩, l2, R2, D2, B2, N2⟩ := giveL_ok G hf w F0 hp0 vals sets l vs qs.tail F1 hp1 hp' r' H1 (fun r R h => hsub _ _ (L1.sub _ _ h)) (fun b j h => L1.inc _ _ (hF _ _ h)) (by simpa using hl) (fun i v a q1 q2 => hv (i + 1) v a (by simpa using q1) (by simpa using q2)) e2
        have sep : ∀ b j, S1 b j → ∀ q R, root hp1 q = some R → sets q b j → False := fun b j s q R hq hs => by
          obtain ⟨_, r, R0, k1, k2, k3⟩ := S1ok b j s
          have := H.dj _ _ _ _ k1 (L1.sub _ _ hq) b j k3 hs
          subst this
          rw [k2] at hq; cases hq
        have S1F2 : ∀ b j, S1 b j → F2 b j → F1 b j := fun b j s h => by
          rcases L2.fro b j h with h | ⟨q, R, k1, _, k3⟩
          · exact h
          · exact (sep b j s q R k1 k3).elim
        refine ⟨F2, fun i => match i with | 0 => S1 | i + 1 => B i, H2, ⟨_, L1.trans L2⟩, by simp [l2], fun i v' a' q1 q2 => ?_, fun i j b o s1 s2 => ?_, fun i b j s => ?_, fun r h => by rw [N2 r h, N1 r h]⟩
        · cases i with
          | zero => cases q1; cases q2; exact R1.grow G L2.inc S1F2
          | succ i => exact R2 i v' a' (by simpa using q1) (by simpa using q2)
        · cases i with
          | zero =>
            cases j with
            | zero => rfl
            | succ j =>
              obtain ⟨_, _, q, R, k1, _, k3⟩ := B2 _ _ _ s2
              exact (sep _ _ s1 q R k1 k3).elim
          | succ i =>
            cases j with
            | zero =>
              obtain ⟨_, _, q, R, k1, _, k3⟩ := B2 _ _ _ s1
              exact (sep _ _ s2 q R k1 k3).elim
            | succ j => rw [D2 i j b o s1 s2]
        · cases i with
          | zero =>
            obtain ⟨k0, q, R, k1, k2, k3⟩ := S1ok b j s
            refine ⟨by simp, fun h => k0 (S1F2 _ _ s h), q, R, k1, ?_, k3⟩
            cases e : root hp' q with
            | none => rfl
            | some R' => have := L2.sub _ _ e; rw [k2] at this; cases this
          | succ i =>
            obtain ⟨k0, k1, q, R, k2, k3, k4⟩ := B2 _ _ _ s
            exact ⟨by simpa using k0, k1, q, R, L1.sub _ _ k2, k3, k4⟩
      · cases h
    · cases h
theorem give1_ok (G : Good E) (nf : Nat) : GiveOk E nf (give1 (Ty := Ty) nf) := by
  intro w F0 F hp0 hp hp' vals sets q v a a' H hsub hF hv h
  unfold give1 at h
  split at h
  · rename_i cs
    split at h
    · rename_i r hp2 e
      cases h
      obtain ⟨vs, rfl, h1, h2⟩ := hv.agg'
      obtain ⟨F', B, H', L, l, R, D, Bk, N⟩ := giveL_ok G (give0_ok G nf) w F0 hp0 vals sets cs vs.toList (wants q) F hp hp' r H hsub hF (by simpa using h1) (fun i v a q1 q2 => h2 i v a (by simpa using q1) q2) e
      refine ⟨F', fun b j => ∃ i, B i b j, H', L, .agg vs r B _ (by rw [h1, l]) (fun i v a q1 q2 => R i v a (by simpa using q1) q2) D (fun i b o s => ⟨(Bk _ _ _ s).1, i, s⟩), fun b j ⟨i, s⟩ => (Bk _ _ _ s).2, N⟩
    · cases h
  · exact give0_ok G nf w F0 F hp0 hp hp' vals sets q v _ a' H hsub hF hv h
theorem give2_ok (G : Good E) (nf : Nat) : GiveOk E nf (give2 (Ty := Ty) nf) := by
  intro w F0 F hp0 hp hp' vals sets q v a a' H hsub hF hv h
  unfold give2 at h
  split at h
  · rename_i cs
    split at h
    · rename_i r hp2 e
      cases h
      obtain ⟨vs, rfl, h1, h2⟩ := hv.tup'
      obtain ⟨F', B, H', L, l, R, D, Bk, N⟩ := giveL_ok G (give1_ok G nf) w F0 hp0 vals sets cs vs.toList (wants q) F hp hp' r H hsub hF (by simpa using h1) (fun i v a q1 q2 => h2 i v a (by simpa using q1) q2) e
      refine ⟨F', fun b j => ∃ i, B i b j, H', L, .tup vs r B _ (by rw [h1, l]) (fun i v a q1 q2 => R i v a (by simpa using q1) q2) D (fun i b o s => ⟨(Bk _ _ _ s).1, i, s⟩), fun b j ⟨i, s⟩ => (Bk _ _ _ s).2, N⟩
    · cases h
  · exact give1_ok G nf w F0 F hp0 hp hp' vals sets q v _ a' H hsub hF hv h
end
end Go.Proofs.Ytnibdgjlbhdmfaa.Ev
