/- The evaluator's operations that leave memory alone: the machine does the same (each operation). -/
import Derived.Test.YtnibdgjlbhdmfaaEvF
namespace Go.Proofs.Ytnibdgjlbhdmfaa.Ev
open Go
set_option linter.unusedVariables false
set_option linter.unusedSimpArgs false
section
variable {Ty : Nat → Type} {E : Tb Ty}
variable {F : Set2} {w : World} {hp : Heap Ty} {vals : Nat → Value} {sets : Nat → Set2} {P : Program}
theorem und_of (K : TbOk E P) {t : Nat} {i : TI} (hi : E.ti t = some i) : ∃ d, P.underlying t = some d ∧ DOk (fun t z => ∃ j, P.info? t = some j ∧ j.size = z) i.d d := K.und t i hi
theorem DOk.slice {Z : TypeId → Nat → Prop} {e : Nat} {d : TypeDesc} (h : DOk Z (.slice e) d) : d = .slice e := by
  cases d <;> simp [DOk] at h
  subst h; rfl
theorem DOk.str {Z : TypeId → Nat → Prop} {d : TypeDesc} (h : DOk Z .str d) : d = .string := by
  cases d <;> simp [DOk] at h
  rfl
theorem DOk.int {Z : TypeId → Nat → Prop} {k : IntKind} {d : TypeDesc} (h : DOk Z (.int k) d) : d = .int k := by
  cases d <;> simp [DOk] at h
  subst h; rfl
theorem DOk.bool {Z : TypeId → Nat → Prop} {d : TypeDesc} (h : DOk Z .bool d) : d = .bool := by
  cases d <;> simp [DOk] at h
  rfl
theorem isAgg_ok (K : TbOk E P) {t : Nat} {i : TI} (hi : E.ti t = some i) (hn : (match i.d with | .other => false | _ => true) = true) (w : World) : (isAgg t).run P w = .ok (isAggD i.d) w := by
  obtain ⟨d, h1, h2⟩ := K.und t i hi
  cases hd : i.d <;> rw [hd] at h2 hn <;> cases d <;> simp [DOk] at h2 hn <;> simp [isAgg, underlying, program, Bind.bind, Sem.bind, Sem.run, Pure.pure, h1, isAggD]
theorem load_ok (K : TbOk E P) (G : Good E) (H : HRel E F w hp vals sets) {t : Nat} {i : TI} (hi : E.ti t = some i) (hn : (match i.d with | .other => false | _ => true) = true) {x : Value} {a : AV Ty} (hx : VRep E F w hp vals x a) {av : AV Ty} (h : (loadT E hp i a).val = some av) :
    ∃ v, (Instr.loadAt t x).run P w = .ok v w ∧ VRep E F w hp vals v av := by
  have hagg := isAgg_ok K hi hn w
  obtain ⟨j, hj1, hj2, _⟩ := K.info t i hi
  have fin : ∀ (b base : Nat) (r : Nat) (p : Path) (m : Bool) (t' : Nat) (xs : List (Ty t')) (k o : Nat), (∀ o a, (seenT r p k o (cellOf E m t' xs k o)).val = some a → ∃ v, w.cell? ⟨b, base + o, none⟩ = some v ∧ VRep E F w hp vals v a) →
      (match isAggD i.d with
      | true => (cellsT E r p m t' xs k o i.sz).bind fun l => T.ret (AV.agg l)
      | false => seenT r p k o (cellOf E m t' xs k o)).val = some av → ∃ v, (Instr.loadAt t (.pointer (some ⟨b, base + o, none⟩))).run P w = .ok v w ∧ VRep E F w hp vals v av := by
    intro b base r p m t' xs k o hs h
    unfold Instr.loadAt loadVar
    simp only [Instr.sureAddr, Pure.pure, Sem.bind, Bind.bind]
    cases hb : isAggD i.d with
    | true =>
      rw [hb] at h hagg
      obtain ⟨l, h1, h2⟩ := (T.val_bind _ _).1 h
      cases h2
      obtain ⟨vs, q1, q2, q3, q4⟩ := cells_ok hs i.sz o l h1
      refine ⟨.agg vs.toArray, ?_, .agg _ _ (by simp [q1, q3]) (fun k v a e1 e2 => q4 k v a (by simpa using e1) e2)⟩
      have hl := loadCells_ok (P := P) (w := w) (b := b) (base := base + o) (vs := vs) i.sz 0 #[] (fun k hk => by
        obtain ⟨v, e1, e2⟩ := q2 k hk
        exact ⟨v, e1, by rw [show base + o + (0 + k) = base + (o + k) by omega]; exact e2⟩) q1
      have := Sem.run_bind (P := P) (w := w) (isAgg t) (fun b_1 => if b_1 = true then (sizeOf t).bind fun n => (loadCells ⟨b, base + o, none⟩ n).bind fun cs => Sem.pure (Value.agg cs) else load ⟨b, base + o, none⟩)
      refine (this.trans ?_)
      rw [hagg]
      simp only [Result.andThen, if_true]
      rw [run_sizeOf hj1, hj2]
      refine (Sem.run_bind (P := P) (w := w) (loadCells ⟨b, base + o, none⟩ i.sz) _).trans ?_
      unfold loadCells
      rw [hl]
      simp [Result.andThen, Sem.run]
    | false =>
      rw [hb] at h hagg
      obtain ⟨v, e1, e2⟩ := hs o av h
      refine ⟨v, ?_, e2⟩
      have := Sem.run_bind (P := P) (w := w) (isAgg t) (fun b_1 => if b_1 = true then (sizeOf t).bind fun n => (loadCells ⟨b, base + o, none⟩ n).bind fun cs => Sem.pure (Value.agg cs) else load ⟨b, base + o, none⟩)
      refine (this.trans ?_)
      rw [hagg]
      simp [Result.andThen, load, Sem.run, e1]
  unfold loadT at h
  split at h
  · rename_i r p k o
    obtain ⟨R, b, off, c, row, h1, h2, h3, rfl⟩ := hx.ptr'
    rw [rowAt_of h1 h2] at h
    rw [← Nat.add_assoc]
    exact fin b _ r p R.m row.t row.xs k o (fun o a h => by
      obtain ⟨v, e1, e2⟩ := seen_ok G H h1 h2 h3 h
      exact ⟨v, by rw [Nat.add_assoc]; exact e1, e2⟩) h
  · rename_i t' xs k o
    have hr := hx.rp
    cases hr with
    | rp b off _ _ _ _ g hk hc hr =>
    rw [← Nat.add_assoc]
    exact fin b _ 0 [] false t' xs k o (fun o a h => by
      obtain ⟨v, e1, e2⟩ := seenF_ok (hp := hp) (vals := vals) hc hr G hk h
      exact ⟨v, by rw [Nat.add_assoc]; exact e1, e2⟩) h
  · cases h
end
end Go.Proofs.Ytnibdgjlbhdmfaa.Ev
