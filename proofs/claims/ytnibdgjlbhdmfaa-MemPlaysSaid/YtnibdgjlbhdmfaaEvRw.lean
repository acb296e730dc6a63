/- A law's row: its function called with what can be read as data. -/
import Derived.Test.YtnibdgjlbhdmfaaEvOp
namespace Go.Proofs.Ytnibdgjlbhdmfaa.Ev
open Go
set_option linter.unusedVariables false
section
variable {Ty : Nat → Type} {E : Tb Ty} {P : Program} {W : World}
theorem law_run {f : FuncId} {l : List (AV Ty)} {q : Bool} {outs : List (AV Ty)} (h : CallOk E P f l (.v (.bool q)) outs) {vs : List Value} (hl : vs.length = l.length) (hn : ∀ a, a ∈ l → isBox a = false)
    (hr : ∀ (i : Nat) v a, vs[i]? = some v → l[i]? = some a → Rep E (fun b _ => b < W.heap.size) W v a) : Calls P f vs.toArray W fun e W' => e = .returned (.bool q) ∧ Go.RowKit.Below W.heap.size W W' := by
  refine (h W (fun b _ => b < W.heap.size) (fun _ _ => False) vs (fun _ _ _ => False) (fun _ => 0) ⟨hl, fun b j h => ⟨h, id⟩, fun i v a e1 e2 _ => hr i v a e1 e2, fun i v m t x e1 e2 => ?_, fun _ _ _ _ h => h.elim, fun _ _ _ h => h.elim, fun _ _ h => h.elim⟩).mono fun e w' he => ?_
  · have := hn _ (List.mem_of_getElem? e2)
    cases this
  · obtain ⟨v, S, F', sets', rfl, h2, h3, h4, h5, h6, _⟩ := he
    refine ⟨?_, h2.below fun b j h => h⟩
    cases h6
    rfl
end
end Go.Proofs.Ytnibdgjlbhdmfaa.Ev
