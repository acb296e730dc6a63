/- append, as the machine runs it. -/
import Derived.Test.YtnibdgjlbhdmfaaEvO
namespace Go.Proofs.Ytnibdgjlbhdmfaa.Ev
open Go
set_option linter.unusedVariables false
set_option linter.unusedSimpArgs false
section
variable {P : Program} {w w' : World}
def notInt : TypeDesc → Bool
  | .int _ => false
  | _ => true
theorem run_typeInfo {t : TypeId} {j : TypeInfo} (h : P.info? t = some j) {α : Type} (k : TypeInfo → Sem α) (w : World) : ((typeInfo t).bind k).run P w = (k j).run P w := by
  simp [typeInfo, program, Bind.bind, Sem.bind, Sem.run, h, Pure.pure]
theorem run_zeroValue {t : TypeId} {j : TypeInfo} {z : Value} (h : P.info? t = some j) (hz : j.zero = some z) {α : Type} (k : Value → Sem α) (w : World) : ((zeroValue t).bind k).run P w = (k z).run P w := by
  simp [zeroValue, typeInfo, program, Bind.bind, Sem.bind, Sem.run, h, hz, Pure.pure]
theorem run_then {α β : Type} {s : Sem α} {k : α → Sem β} {a : α} {w1 : World} (h : s.run P w = .ok a w1) : (s.bind k).run P w = (k a).run P w1 := by
  have := Sem.run_bind (P := P) (w := w) s k
  refine this.trans ?_
  rw [h]
  rfl
theorem append_in {T T2 ty e n0 n1 cap : Nat} {base : Option Addr} {x : Value} {vs : List Value} {d2 : TypeDesc} {j : TypeInfo} (h1 : P.underlying T = some (.slice e)) (h2 : P.underlying T2 = some d2) (h3 : notInt d2 = true) (h4 : P.info? e = some j)
    (hl : Builtin.lenOf x = Sem.pure n1) (hc : n0 + n1 ≤ cap) (hf : (Builtin.firstCells j.size n1 x).run P w = .ok vs.toArray w)
    (hs : match base with | some a => (storeCells (a.add (n0 * j.size)) vs 0).run P w = .ok () w' | none => w' = w) :
    (Builtin.append_ #[T, T2] ty #[.slice base n0 cap, x]).run P w = .ok (.slice base (n0 + n1) cap) w' := by
  unfold Builtin.append_
  simp only [List.getElem?_toArray, List.getElem?_cons_zero, List.getElem?_cons_succ, Bind.bind]
  rw [run_underlying h1]
  simp only
  rw [run_sizeOf h4]
  rw [run_underlying h2]
  cases d2 <;> first
    | (cases h3; done)
    | (simp only [Pure.pure, Sem.bind, Bool.false_eq_true, if_false, hl, if_pos hc, Bool.not_false, if_true]
       rw [run_then hf]
       cases base with
       | none => subst hs; rfl
       | some a =>
         simp only [] at hs ⊢
         rw [run_then hs]
         rfl)
theorem growBy_le {n : Nat} : ∀ (k c : Nat), c ≤ 2 * n + 512 → Builtin.growBy n k c ≤ 2 * n + 512
  | 0, c, h => h
  | k + 1, c, h => by
    unfold Builtin.growBy
    split
    · exact h
    · exact growBy_le k _ (by omega)
theorem nextcap_le {n c : Nat} (h : c < n) : Builtin.nextslicecap n c ≤ 2 * n + 512 := by
  unfold Builtin.nextslicecap
  split
  · omega
  · split
    · omega
    · exact growBy_le 4 c (by omega)
theorem append_grow {T T2 ty e n0 n1 cap : Nat} {base : Option Addr} {x : Value} {vs0 vs : List Value} {d2 : TypeDesc} {j : TypeInfo} {z : Value} (h1 : P.underlying T = some (.slice e)) (h2 : P.underlying T2 = some d2) (h3 : notInt d2 = true) (h4 : P.info? e = some j) (h5 : j.zero = some z)
    (hl : Builtin.lenOf x = Sem.pure n1) (hc : ¬ n0 + n1 ≤ cap) (hb : (n0 + n1 + 1) ≤ 549755813888) (hb2 : (n0 + n1 + 1) * j.bytes ≤ 549755813888)
    (hf0 : ∀ d, (Builtin.firstCells j.size n0 (.slice base n0 cap)).run P { w with drawn := d } = .ok vs0.toArray { w with drawn := d }) (hf : ∀ d, (Builtin.firstCells j.size n1 x).run P { w with drawn := d } = .ok vs.toArray { w with drawn := d }) :
    ∃ c d, n0 + n1 ≤ c ∧ (Builtin.append_ #[T, T2] ty #[.slice base n0 cap, x]).run P w =
      .ok (.slice (some ⟨w.heap.size, 0, none⟩) (n0 + n1) c) (({ w with drawn := d } : World).alloc (.cells (vs0.toArray ++ vs.toArray ++ Builtin.zeroCells z.cells (c - (n0 + n1))) e)) := by
  have hcap : Builtin.nextslicecap (n0 + n1) cap * j.bytes ≤ 2 ^ 48 := by
    have a1 := nextcap_le (n := n0 + n1) (c := cap) (by omega)
    calc Builtin.nextslicecap (n0 + n1) cap * j.bytes ≤ (2 * (n0 + n1) + 512) * j.bytes := Nat.mul_le_mul_right _ a1
      _ ≤ (512 * (n0 + n1 + 1)) * j.bytes := Nat.mul_le_mul_right _ (by omega)
      _ = 512 * ((n0 + n1 + 1) * j.bytes) := Nat.mul_assoc _ _ _
      _ ≤ 512 * 549755813888 := Nat.mul_le_mul_left _ hb2
      _ ≤ 2 ^ 48 := by decide
  obtain ⟨c, hcc⟩ : ∃ c, c = (Question.appendCap (n0 + n1) cap e).cut (w.tape w.drawn (.appendCap (n0 + n1) cap e)) := ⟨_, rfl⟩
  have hge : n0 + n1 ≤ c := by rw [hcc]; unfold Question.cut; exact Nat.le_add_right _ _
  refine ⟨c, w.drawn + 1, hge, ?_⟩
  unfold Builtin.append_
  simp only [List.getElem?_toArray, List.getElem?_cons_zero, List.getElem?_cons_succ, Bind.bind]
  rw [run_underlying h1]
  simp only
  rw [run_sizeOf h4]
  rw [run_underlying h2]
  have hmax : ¬ ((((n0 + n1 : Nat) : Int) > IntKind.i64.max) ∧ (False ∨ j.bytes = 0)) := by
    rintro ⟨h, _⟩
    have : IntKind.i64.max = 9223372036854775807 := by decide
    rw [this] at h
    omega
  have hch : (choose (.appendCap (n0 + n1) cap e)).run P w = .ok c { w with drawn := w.drawn + 1 } := by
    simp [choose, Sem.run, Question.forced, hcc]
  have hask : (askRoom (c * j.bytes)).run P { w with drawn := w.drawn + 1 } = .ok () { w with drawn := w.drawn + 1 } := by
    unfold askRoom
    split <;> rfl
  cases d2 <;> first
    | (cases h3; done)
    | (simp only [Pure.pure, Sem.bind, Bool.false_eq_true, if_false, hl, if_neg hc, Bool.not_false, if_true]
       rw [run_typeInfo h4, if_neg hmax, run_typeInfo h4, if_neg (by omega), run_then hch, run_typeInfo h4, run_then hask, run_then (hf0 _), run_then (hf _), run_zeroValue h4 h5]
       rfl)
end
end Go.Proofs.Ytnibdgjlbhdmfaa.Ev
