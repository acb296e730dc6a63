/- A function's contract from its walk. -/
import Derived.Test.YtnibdgjlbhdmfaaEvZA
import Derived.Laws.Sem
namespace Go.Proofs.Ytnibdgjlbhdmfaa.Ev
open Go
set_option linter.unusedVariables false
set_option linter.unusedSimpArgs false
section
variable {Ty : Nat → Type} (E : Tb Ty) (C : Cfg Ty) (U : Cuts)
def slotsA : List (AV Ty) → Nat → Nat → List (Nat × AV Ty)
  | [], _, _ => []
  | .box m t x :: l, i, r => (i, .ptr r [] 0 0) :: slotsA l (i + 1) (r + 1)
  | a :: l, i, r => (i, a) :: slotsA l (i + 1) r
def heapA : List (AV Ty) → Heap Ty
  | [] => []
  | .box m t x :: l => some ⟨t, m, [x]⟩ :: heapA l
  | _ :: l => heapA l
def posA : List (AV Ty) → Nat → List Nat
  | [], _ => []
  | .box _ _ _ :: l, i => i :: posA l (i + 1)
  | _ :: l, i => posA l (i + 1)
def sameM : Bool → Bool → Bool
  | true, true => true
  | false, false => true
  | _, _ => false
def outsA (hp : Heap Ty) : List (AV Ty) → Nat → Option (List (AV Ty))
  | [], _ => some []
  | .box m t x :: l, r => match root hp r with
    | some ⟨t', m', [x']⟩ => match Nat.beq t' t && sameM m' m, outsA hp l (r + 1) with
      | true, some o => some (.box m' t' x' :: o)
      | _, _ => none
    | _ => none
  | a :: l, r => match outsA hp l r with
    | some o => some (.dead :: o)
    | none => none
def resV (s : St Ty) : List ResultVar → Option (List (AV Ty))
  | [] => some []
  | .tmp t :: l => match resV s l with
    | some r => some (look s.fr t :: r)
    | none => none
  | .cell a t :: l => match E.ti t with
    | some i => match i.d with
      | .other => none
      | _ => match (loadT E s.hp i (look s.fr a)).val, resV s l with
        | some x, some r => some (x :: r)
        | _, _ => none
    | none => none
def single : List (AV Ty) → AV Ty
  | [x] => x
  | l => .tup l
def resT (rs : List ResultVar) (q : Want) (as : List (AV Ty)) (s : St Ty) : Option (AV Ty × List (AV Ty)) := match resV E s rs with
  | some vs => match give2 C.nf q s.hp (single vs) with
    | some (r, hp') => match outsA hp' as 0 with
      | some o => some (r, o)
      | none => none
    | none => none
  | none => none
/-- A function, walked. -/
def evalF (n : Nat) (body : Code) (rs : List ResultVar) (q : Want) (as : List (AV Ty)) : Option (AV Ty × List (AV Ty)) :=
  walk E C U (resT E C rs q as) n [.code body] ⟨slotsA as 0 0, heapA as⟩
variable {E} {C} {U}
variable {X : Set2} {W0 : World} {F0 F F' : Set2} {B : Nat → Value} {w w' : World} {hp hp' : Heap Ty} {vals vals' : Nat → Value} {sets sets' : Nat → Set2} {P : Program} {s : St Ty} {a : Act}
def isBox : AV Ty → Bool
  | .box _ _ _ => true
  | _ => false
theorem slots_at : ∀ (as : List (AV Ty)) (i0 r0 t : Nat), look (slotsA as i0 r0) t = .dead ∨ ∃ i, t = i0 + i ∧ ((as[i]? = some (look (slotsA as i0 r0) t) ∧ isBox (look (slotsA as i0 r0) t) = false) ∨
    ∃ m t' x k, as[i]? = some (.box m t' x) ∧ look (slotsA as i0 r0) t = .ptr (r0 + k) [] 0 0 ∧ (heapA as)[k]? = some (some ⟨t', m, [x]⟩) ∧ (posA as i0)[k]? = some (i0 + i))
  | [], i0, r0, t => .inl rfl
  | a :: l, i0, r0, t => by
    by_cases hb : ∃ m t' x, a = .box m t' x
    · obtain ⟨m, t', x, rfl⟩ := hb
      unfold slotsA
      rw [look_cons]
      by_cases e : t = i0
      · rw [if_pos e]
        exact .inr ⟨0, by omega, .inr ⟨m, t', x, 0, rfl, rfl, rfl, rfl⟩⟩
      · rw [if_neg e]
        rcases slots_at l (i0 + 1) (r0 + 1) t with h | ⟨i, h1, h | ⟨m1, t1, x1, k, h2, h3, h4, h5⟩⟩
        · exact .inl h
        · exact .inr ⟨i + 1, by omega, .inl (by simpa using h)⟩
        · exact .inr ⟨i + 1, by omega, .inr ⟨m1, t1, x1, k + 1, by simpa using h2, by rw [h3]; congr 1; omega, by simpa [heapA] using h4, by simp only [posA, List.getElem?_cons_succ, h5]; congr 1; omega⟩⟩
    · have hs : slotsA (a :: l) i0 r0 = (i0, a) :: slotsA l (i0 + 1) r0 := by cases a <;> first | rfl | exact absurd ⟨_, _, _, rfl⟩ hb
      have hh : heapA (a :: l) = heapA l := by cases a <;> first | rfl | exact absurd ⟨_, _, _, rfl⟩ hb
      have hp : posA (a :: l) i0 = posA l (i0 + 1) := by cases a <;> first | rfl | exact absurd ⟨_, _, _, rfl⟩ hb
      rw [hs, look_cons, hh, hp]
      by_cases e : t = i0
      · rw [if_pos e]
        exact .inr ⟨0, by omega, .inl ⟨rfl, by cases a <;> first | rfl | exact absurd ⟨_, _, _, rfl⟩ hb⟩⟩
      · rw [if_neg e]
        rcases slots_at l (i0 + 1) r0 t with h | ⟨i, h1, h | ⟨m1, t1, x1, k, h2, h3, h4, h5⟩⟩
        · exact .inl h
        · exact .inr ⟨i + 1, by omega, .inl (by simpa using h)⟩
        · exact .inr ⟨i + 1, by omega, .inr ⟨m1, t1, x1, k, by simpa using h2, h3, h4, by rw [h5]; congr 1; omega⟩⟩
theorem pos_at : ∀ (as : List (AV Ty)) (i0 k : Nat), (∀ p, (posA as i0)[k]? = some p → ∃ i m t x, p = i0 + i ∧ as[i]? = some (.box m t x) ∧ (heapA as)[k]? = some (some ⟨t, m, [x]⟩)) ∧ ∀ R, (heapA as)[k]? = some R → ∃ p, (posA as i0)[k]? = some p
  | [], i0, k => ⟨fun p h => by simp [posA] at h, fun R h => by simp [heapA] at h⟩
  | a :: l, i0, k => by
    by_cases hb : ∃ m t' x, a = .box m t' x
    · obtain ⟨m, t', x, rfl⟩ := hb
      cases k with
      | zero => exact ⟨fun p h => by cases h; exact ⟨0, m, t', x, rfl, rfl, rfl⟩, fun R h => ⟨i0, rfl⟩⟩
      | succ k =>
        obtain ⟨h1, h2⟩ := pos_at l (i0 + 1) k
        refine ⟨fun p h => ?_, fun R h => ?_⟩
        · obtain ⟨i, m, t, x, q1, q2, q3⟩ := h1 p (by simpa [posA] using h)
          exact ⟨i + 1, m, t, x, by omega, by simpa using q2, by simpa [heapA] using q3⟩
        · obtain ⟨p, q⟩ := h2 R (by simpa [heapA] using h)
          exact ⟨p, by simpa [posA] using q⟩
    · have hh : heapA (a :: l) = heapA l := by cases a <;> first | rfl | exact absurd ⟨_, _, _, rfl⟩ hb
      have hp : posA (a :: l) i0 = posA l (i0 + 1) := by cases a <;> first | rfl | exact absurd ⟨_, _, _, rfl⟩ hb
      rw [hh, hp]
      obtain ⟨h1, h2⟩ := pos_at l (i0 + 1) k
      refine ⟨fun p h => ?_, h2⟩
      obtain ⟨i, m, t, x, q1, q2, q3⟩ := h1 p h
      exact ⟨i + 1, m, t, x, by omega, by simpa using q2, q3⟩
theorem pos_inj : ∀ (as : List (AV Ty)) (i0 k k' p : Nat), (posA as i0)[k]? = some p → (posA as i0)[k']? = some p → k = k'
  | [], i0, k, k', p, h, _ => by simp [posA] at h
  | a :: l, i0, k, k', p, h, h' => by
    by_cases hb : ∃ m t' x, a = .box m t' x
    · obtain ⟨m, t', x, rfl⟩ := hb
      have big : ∀ k p, (posA l (i0 + 1))[k]? = some p → i0 < p := fun k p h => by
        obtain ⟨i, _, _, _, q, _⟩ := (pos_at l (i0 + 1) k).1 p h
        omega
      cases k with
      | zero =>
        cases k' with
        | zero => rfl
        | succ k' =>
          cases h
          have := big k' _ (by simpa [posA] using h')
          omega
      | succ k =>
        cases k' with
        | zero =>
          cases h'
          have := big k _ (by simpa [posA] using h)
          omega
        | succ k' => rw [pos_inj l (i0 + 1) k k' p (by simpa [posA] using h) (by simpa [posA] using h')]
    · have hp : posA (a :: l) i0 = posA l (i0 + 1) := by cases a <;> first | rfl | exact absurd ⟨_, _, _, rfl⟩ hb
      rw [hp] at h h'
      exact pos_inj l (i0 + 1) k k' p h h'
theorem sameM_eq {m m' : Bool} (h : sameM m m' = true) : m = m' := by cases m <;> cases m' <;> first | rfl | cases h
theorem outs_at : ∀ (as : List (AV Ty)) (i0 r0 : Nat) {outs : List (AV Ty)}, outsA hp as r0 = some outs → outs.length = as.length ∧ ∀ i m t x, as[i]? = some (.box m t x) → ∃ k x', (posA as i0)[k]? = some (i0 + i) ∧ outs[i]? = some (.box m t x') ∧ root hp (r0 + k) = some ⟨t, m, [x']⟩
  | [], i0, r0, outs, h => by
    cases h
    exact ⟨rfl, fun i m t x h => by simp at h⟩
  | a :: l, i0, r0, outs, h => by
    by_cases hb : ∃ m t' x, a = .box m t' x
    · obtain ⟨m, t', x, rfl⟩ := hb
      unfold outsA at h
      split at h
      · rename_i t1 m1 x1 hr
        split at h
        · rename_i o hq ho
          cases h
          rw [Bool.and_eq_true] at hq
          have e1 := Nat.eq_of_beq_eq_true hq.1
          have e2 := sameM_eq hq.2
          subst e1 e2
          obtain ⟨h1, h2⟩ := outs_at l (i0 + 1) (r0 + 1) ho
          refine ⟨by simp [h1], fun i m t x hi => ?_⟩
          cases i with
          | zero => cases hi; exact ⟨0, x1, rfl, rfl, hr⟩
          | succ i =>
            obtain ⟨k, x', q1, q2, q3⟩ := h2 i m t x (by simpa using hi)
            exact ⟨k + 1, x', by simp only [posA, List.getElem?_cons_succ, q1]; congr 1; omega, by simpa using q2, by rw [← q3]; congr 1; omega⟩
        · cases h
      · cases h
    · have hpos : posA (a :: l) i0 = posA l (i0 + 1) := by cases a <;> first | rfl | exact absurd ⟨_, _, _, rfl⟩ hb
      have ho : ∃ o, outsA hp l r0 = some o ∧ outs = .dead :: o := by
        cases a <;> first | exact absurd ⟨_, _, _, rfl⟩ hb | skip
        all_goals
          unfold outsA at h
          split at h
          · rename_i o e; cases h; exact ⟨o, e, rfl⟩
          · cases h
      obtain ⟨o, ho, rfl⟩ := ho
      obtain ⟨h1, h2⟩ := outs_at l (i0 + 1) r0 ho
      refine ⟨by simp [h1], fun i m t x hi => ?_⟩
      cases i with
      | zero => cases hi; exact absurd ⟨_, _, _, rfl⟩ hb
      | succ i =>
        obtain ⟨k, x', q1, q2, q3⟩ := h2 i m t x (by simpa using hi)
        exact ⟨k, x', by rw [hpos, q1]; congr 1; omega, by simpa using q2, q3⟩
theorem cell_run {t : TypeId} {x v : Value} {w : World} (h : (Instr.loadAt t x).run P w = .ok v w) : (asAddr x >>= fun a => loadVar t a).run P w = .ok v w := by
  unfold Instr.loadAt Instr.sureAddr at h
  unfold asAddr
  cases x with
  | pointer p =>
    cases p with
    | some a => exact h
    | none => cases h
  | _ => cases h
theorem resV_ok (K : TbOk E P) (G : Good E) (H : HRel E F w s.hp vals sets) (hf : ∀ t, VRep E F w s.hp vals (a.tmps.getD t undef) (look s.fr t)) : ∀ (rs : List ResultVar) {l : List (AV Ty)}, resV E s rs = some l →
    ∃ vs : List Value, (rs.mapM (m := Sem) fun | .tmp t => pure (a.tmps.getD t undef) | .cell c t => do loadVar t (← asAddr (a.tmps.getD c undef))).run P w = .ok vs w ∧ vs.length = l.length ∧ ∀ (i : Nat) v x, vs[i]? = some v → l[i]? = some x → VRep E F w s.hp vals v x
  | [], l, h => by
    cases h
    exact ⟨[], rfl, rfl, fun i v x e => by simp at e⟩
  | .tmp t :: rs, l, h => by
    unfold resV at h
    split at h
    · rename_i r e
      cases h
      obtain ⟨vs, h1, h2, h3⟩ := resV_ok K G H hf rs e
      refine ⟨a.tmps.getD t undef :: vs, ?_, by simp [h2], fun i v x q1 q2 => ?_⟩
      · rw [List.mapM_cons]
        simp only [pure_bind]
        rw [Sem.run_bind, h1]
        rfl
      · cases i with
        | zero => cases q1; cases q2; exact hf t
        | succ i => exact h3 i v x (by simpa using q1) (by simpa using q2)
    · cases h
  | .cell c t :: rs, l, h => by
    unfold resV at h
    split at h
    · rename_i i hi
      split at h
      · cases h
      · rename_i hn
        split at h
        · rename_i x r e1 e2
          cases h
          obtain ⟨vs, h1, h2, h3⟩ := resV_ok K G H hf rs e2
          obtain ⟨v, h4, h5⟩ := load_ok K G H hi (by cases e : i.d <;> first | rfl | exact absurd e hn) (hf c) e1
          refine ⟨v :: vs, ?_, by simp [h2], fun i v x q1 q2 => ?_⟩
          · rw [List.mapM_cons, Sem.run_bind]
            have := cell_run h4
            simp only [this, Result.andThen]
            rw [Sem.run_bind, h1]
            rfl
          · cases i with
            | zero => cases q1; cases q2; exact h5
            | succ i => exact h3 i v x (by simpa using q1) (by simpa using q2)
        · cases h
    · cases h
theorem results_ok (K : TbOk E P) (G : Good E) (H : HRel E F w s.hp vals sets) (hf : ∀ t, VRep E F w s.hp vals (a.tmps.getD t undef) (look s.fr t)) (fn : Func) {l : List (AV Ty)} (h : resV E s fn.results.toList = some l) :
    ∃ v, (results fn a.tmps).run P w = .ok v w ∧ VRep E F w s.hp vals v (single l) := by
  obtain ⟨vs, h1, h2, h3⟩ := resV_ok K G H hf _ h
  refine ⟨if h : vs.toArray.size = 1 then vs.toArray[0] else .tuple vs.toArray, ?_, ?_⟩
  · unfold results
    rw [Array.mapM_eq_mapM_toList, map_eq_pure_bind, bind_assoc, Sem.run_bind]
    exact (congrArg (fun X => Result.andThen X _) h1).trans rfl
  · cases l with
    | nil =>
      have : vs = [] := List.length_eq_zero_iff.1 h2
      subst this
      exact .tup _ _ rfl fun i v a e => by simp at e
    | cons x l =>
      cases l with
      | nil =>
        match vs, h2 with
        | [v], _ => exact h3 0 v x rfl rfl
      | cons y l =>
        have : ¬ vs.toArray.size = 1 := by simp at h2 ⊢; omega
        rw [dif_neg this]
        exact .tup _ _ (by simpa using h2) fun i v a q1 q2 => h3 i v a (by simpa using q1) q2
/-- The contract of a function that was walked. -/
theorem fn_ok (K : TbOk E P) (G : Good E) (hS : SOk E C P) (hm : P.follows .mixedOrders = true) {f : FuncId} {fn : Func} {body : Code} (hf : P.funcs[f]? = some fn) (hb : fn.body = some body) (hnt : C.nt = fn.ntmps) {as : List (AV Ty)} (hnf : C.nf = (heapA as).length)
    (hlen : as.length ≤ fn.ntmps) {n : Nat} {q : Want} {res : AV Ty} {outs : List (AV Ty)} (h : evalF E C U n body fn.results.toList q as = some (res, outs)) : CallOk E P f as res outs := by
  intro W F X vs sets caps A
  obtain ⟨vals0, hvals0⟩ : ∃ vals0 : Nat → Value, ∀ k p b off, (posA as 0)[k]? = some p → vs[p]? = some (.pointer (some ⟨b, off, none⟩)) → vals0 k = .slice (some ⟨b, off, none⟩) 1 (caps p) :=
    ⟨fun k => match (posA as 0)[k]? with
      | some p => match vs[p]? with
        | some (.pointer (some ⟨b, off, none⟩)) => .slice (some ⟨b, off, none⟩) 1 (caps p)
        | _ => undef
      | none => undef, fun k p b off h1 h2 => by simp only [h1, h2]⟩
  obtain ⟨sets0, hsets0⟩ : ∃ sets0 : Nat → Set2, ∀ k b j, sets0 k b j ↔ ∃ p, (posA as 0)[k]? = some p ∧ sets p b j := ⟨fun k b j => ∃ p, (posA as 0)[k]? = some p ∧ sets p b j, fun _ _ _ => Iff.rfl⟩
  have rootOf : ∀ k R, root (heapA as) k = some R → ∃ p m t x b off, (posA as 0)[k]? = some p ∧ as[p]? = some (.box m t x) ∧ R = ⟨t, m, [x]⟩ ∧ vs[p]? = some (.pointer (some ⟨b, off, none⟩)) ∧ vals0 k = .slice (some ⟨b, off, none⟩) 1 (caps p) ∧ Own E F W m (.slice (some ⟨b, off, none⟩) 1 (caps p)) t [x] (sets p) := by
    intro k R h
    unfold root at h
    split at h
    · rename_i R' hk
      obtain ⟨p, hp⟩ := (pos_at as 0 k).2 _ hk
      obtain ⟨i, m, t, x, e, h1, h2⟩ := (pos_at as 0 k).1 p hp
      rw [Nat.zero_add] at e
      subst e
      rw [hk] at h2
      cases h2
      cases h
      have hi : p < vs.length := by rw [A.len]; exact get_lt h1
      obtain ⟨b, off, e1, e2⟩ := A.box p _ m t x (List.getElem?_eq_getElem hi) h1
      have hv : vs[p]? = some (.pointer (some ⟨b, off, none⟩)) := by rw [List.getElem?_eq_getElem hi, e1]
      exact ⟨p, m, t, x, b, off, hp, h1, rfl, hv, hvals0 k p b off hp hv, e2⟩
    · cases h
  have setsEq : ∀ k p, (posA as 0)[k]? = some p → ∀ b j, sets0 k b j ↔ sets p b j := fun k p hp b j => by
    rw [hsets0]
    refine ⟨fun ⟨p', h1, h2⟩ => ?_, fun h => ⟨p, hp, h⟩⟩
    rw [hp] at h1
    cases h1
    exact h2
  have I0 : Inv E X W F W (heapA as) vals0 sets0 := by
    refine ⟨⟨fun k R h => ?_, fun k k' R R' h h' b j s s' => ?_⟩, fun b j h => (A.fb b j h).1, fun k R b j h s => ?_, .refl _ _⟩
    · obtain ⟨p, m, t, x, b, off, h1, h2, rfl, h4, h5, h6⟩ := rootOf k R h
      simp only
      rw [h5]
      exact h6.congr fun b j => setsEq k p h1 b j
    · obtain ⟨p, h1, h2⟩ := (hsets0 _ _ _).1 s
      obtain ⟨p', h3, h4⟩ := (hsets0 _ _ _).1 s'
      have := A.dj p p' b j h2 h4
      subst this
      exact pos_inj as 0 k k' p h1 h3
    · obtain ⟨p, h1, h2⟩ := (hsets0 _ _ _).1 s
      exact .inl (A.inX p b j h2)
  have hvsz : vs.toArray.size = vs.length := by simp
  have R0 : SRep E C X W F vals0 ⟨slotsA as 0 0, heapA as⟩ { tmps := vs.toArray ++ Array.replicate (fn.ntmps - vs.toArray.size) undef, defers := [] } W := by
    refine ⟨⟨F, vals0, sets0, I0, fun t => ?_, fun _ _ => rfl, Grow.refl _ _ _⟩, ?_, rfl, by rw [hnf]; exact Nat.le_refl _⟩
    · rcases slots_at as 0 0 t with h | ⟨i, e, h | ⟨m, t', x, k, h1, h2, h3, h4⟩⟩
      · simp only; rw [h]; exact .of (.dead _) fun _ _ _ _ => by simp
      · rw [Nat.zero_add] at e
        subst e
        have hi : t < vs.length := by rw [A.len]; exact get_lt h.1
        have hv : (vs.toArray ++ Array.replicate (fn.ntmps - vs.toArray.size) undef).getD t undef = vs[t] := by
          simp [Array.getD, hi, Array.getElem_append_left, Nat.lt_of_lt_of_le hi (Nat.le_add_right _ _)]
        simp only
        rw [hv]
        have hr := A.rep t _ _ (List.getElem?_eq_getElem hi) h.1 fun m t' x e => by rw [e] at h; cases h.2
        exact .of (.rep _ _ hr) fun r p t2 xs e => by rw [e] at hr; exact hr.noExt
      · rw [Nat.zero_add] at e
        subst e
        have hi : t < vs.length := by rw [A.len]; exact get_lt h1
        have hv : (vs.toArray ++ Array.replicate (fn.ntmps - vs.toArray.size) undef).getD t undef = vs[t] := by
          simp [Array.getD, hi, Array.getElem_append_left, Nat.lt_of_lt_of_le hi (Nat.le_add_right _ _)]
        simp only
        rw [hv, h2]
        have hroot : root (heapA as) k = some ⟨t', m, [x]⟩ := by unfold root; rw [h3]
        obtain ⟨p, m1, t1, x1, b, off, q1, q2, q3, q4, q5, q6⟩ := rootOf k _ hroot
        rw [Nat.zero_add] at h4
        rw [h4] at q1
        cases q1
        rw [List.getElem?_eq_getElem hi] at q4
        rw [Option.some.inj q4, Nat.zero_add]
        have := VRep.ptr (E := E) (F := F) (w := W) (hp := heapA as) (vals := vals0) k [] 0 0 ⟨t', m, [x]⟩ b off (caps t) ⟨t', [x]⟩ hroot ⟨q5.symm, rfl⟩ (by simp)
        exact .of (by simpa using this) fun _ _ _ _ => by simp
    · simp only [Array.size_append, Array.size_replicate, hnt, hvsz]
      have := A.len
      omega
  intro cs
  let b : Frame := { (default : Frame) with fn := f, kind := .normal }
  have henter : Frame.enter P f vs.toArray .normal = b.at { tmps := vs.toArray ++ Array.replicate (fn.ntmps - vs.toArray.size) undef, defers := [] } [.code body] := by
    simp [Frame.enter, Frame.at, hf, hb, b]
  obtain ⟨Q, hQ⟩ : ∃ Q : Act → World → Prop, ∀ a w, Q a w ↔ (a.defers = [] ∧ ∃ v, (results fn a.tmps).run P w = .ok v w ∧
      ∃ (S F' : Set2) (sets' : Nat → Set2), Keep X W w ∧ (∀ b j, F b j → F' b j) ∧ (∀ b j, F' b j → F b j ∨ W.heap.size ≤ b ∨ X b j) ∧ (∀ b j, F' b j → b < w.heap.size) ∧ ResOk E F' w v res S ∧ (∀ b j, S b j → W.heap.size ≤ b ∨ X b j) ∧
      outs.length = as.length ∧
      (∀ (i : Nat) m t x b off, as[i]? = some (.box m t x) → vs[i]? = some (.pointer (some ⟨b, off, none⟩)) → ∃ x', outs[i]? = some (.box m t x') ∧ Own E F' w m (.slice (some ⟨b, off, none⟩) 1 (caps i)) t [x'] (sets' i)) ∧
      (∀ i b j, sets' i b j → (W.heap.size ≤ b ∨ X b j) ∧ ¬ S b j) ∧ (∀ i i' b j, sets' i b j → sets' i' b j → i = i')) := ⟨_, fun _ _ => Iff.rfl⟩
  have key : ∀ s a w, resT E C fn.results.toList q as s = some (res, outs) → SRep E C X W F vals0 s a w → Q a w := by
    intro s a w hr Rp
    rw [hQ]
    refine ⟨Rp.defs, ?_⟩
    obtain ⟨⟨F1, vals, sets1, I, hfr, hB, hG⟩, hsz, hdf, hnf'⟩ := Rp
    unfold resT at hr
    split at hr
    · rename_i l hl
      split at hr
      · rename_i r hp1 hg
        split at hr
        · rename_i o ho
          cases hr
          obtain ⟨v, hv, hvr⟩ := results_ok K G I.H (fun t => (hfr t).1) fn hl
          obtain ⟨F2, S, H2, ⟨ks, L⟩, hres, hS2, hN⟩ := give2_ok G C.nf w F1 F1 s.hp s.hp hp1 vals sets1 q v _ _ I.H (fun _ _ h => h) (fun _ _ h => h) hvr hg
          obtain ⟨o1, o2⟩ := outs_at as 0 0 ho
          have sw : ∀ {b j}, X b j ∨ W.heap.size ≤ b → W.heap.size ≤ b ∨ X b j := fun h => h.symm
          have old : ∀ k p, (posA as 0)[k]? = some p → k < C.nf := fun k p h => by
            obtain ⟨_, _, _, _, _, _, h3⟩ := (pos_at as 0 k).1 p h
            rw [hnf]
            exact get_lt h3
          refine ⟨v, hv, S, F2, fun i b j => ∃ k, (posA as 0)[k]? = some i ∧ sets1 k b j ∧ ∃ R, root hp1 k = some R, I.keep, fun b j h => L.inc _ _ (hG.1 _ _ h), fun b j h => ?_, fun b j h => ?_, hres, fun b j h => ?_, o1, fun i m t x b off e1 e2 => ?_, fun i b j ⟨k, h1, h2, R, h3⟩ => ⟨?_, fun hs => ?_⟩, fun i i' b j ⟨k, h1, h2, R, h3⟩ ⟨k', h1', h2', R', h3'⟩ => ?_⟩
          · rcases L.fro b j h with h | ⟨q, R, h1, _, h2⟩
            · rcases hG.2 _ _ h with h | h
              · exact .inl h
              · exact .inr (sw h)
            · exact .inr (sw (I.lim _ _ _ _ h1 h2))
          · rcases L.fro b j h with h | ⟨q, R, h1, _, h2⟩
            · exact I.fb _ _ h
            · exact I.lt h1 h2
          · obtain ⟨_, q, R, h1, _, h2⟩ := hS2 b j h
            exact sw (I.lim _ _ _ _ h1 h2)
          · obtain ⟨k, x', q1, q2, q3⟩ := o2 i m t x e1
            rw [Nat.zero_add] at q1 q3
            refine ⟨x', q2, ?_⟩
            have hO := H2.own k _ q3
            simp only at hO
            rw [hB k (old k i q1), hvals0 k i b off q1 e2] at hO
            refine hO.congr fun b' j' => ⟨fun ⟨k', h1, h2, _⟩ => ?_, fun h => ⟨k, q1, h, _, q3⟩⟩
            rw [pos_inj as 0 k k' i q1 h1]
            exact h2
          · exact sw (I.lim _ _ _ _ (L.sub _ _ h3) h2)
          · obtain ⟨_, q, R2, k1, k2, k3⟩ := hS2 b j hs
            have := I.H.dj _ _ _ _ (L.sub _ _ h3) k1 b j h2 k3
            subst this
            rw [k2] at h3
            cases h3
          · have := H2.dj _ _ _ _ h3 h3' b j h2 h2'
            subst this
            rw [h1] at h1'
            exact Option.some.inj h1'
        · cases hr
      · cases hr
    · cases hr
  obtain ⟨a', w', k', hq, hs⟩ := walk_ok (U := U) (cs := cs) (b := b) K G hS hm key n [.code body] _ _ W h R0
  rw [hQ] at hq
  obtain ⟨hd, v, hv, S, F', sets', hrest⟩ := hq
  exact ⟨.returned v, w', { b.at a' k' with mode := .returning }, ⟨v, S, F', sets', rfl, hrest⟩, by rw [henter]; exact hs, rfl, ⟨rfl, hd, rfl, fn, hf, hv⟩⟩
end
end Go.Proofs.Ytnibdgjlbhdmfaa.Ev
