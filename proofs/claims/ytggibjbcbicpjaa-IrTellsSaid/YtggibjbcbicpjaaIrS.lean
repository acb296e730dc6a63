/- A module as an argument. -/
import Derived.Test.YtggibjbcbicpjaaIrL
import Derived.Test.YtggibjbcbicpjaaIrN
namespace Go.Proofs.Ytggibjbcbicpjaa.Ev
open Go
set_option linter.unusedVariables false
def modA (m : Ev.Module) : AV Ty := .agg ((codA 27).enc false m)
theorem wideM_of {m : Ev.Module} (h : ∀ (o : Nat) a, ((codA 27).enc false m)[o]? = some a → FineW tb a) : wideM m := fun f hf => by
  have h3 : FineW tb (.sl false 33 m.funcs) := h 3 _ rfl
  exact wide_of ((fine_row h3).2 f hf)
theorem open_mod {W : World} {H : Type} {enc : TypeId × Value → H} {spare : Nat → Bool} {held : Bool} {fuel : Nat} {cs : Array Value} {x : DataW H × List MemPlace} (h : DataW.trod enc Try.prog W 0 spare held fuel 27 cs.toList = some x) (hw : ∀ n, n ∈ x.1.weights Try.prog 27 → n ≤ reachBytes) :
    ∃ m : Ev.Module, Rep tb (fun b _ => b < W.heap.size) W (.agg cs) (modA m) ∧ wideM m := by
  obtain ⟨m, h1, h2⟩ := open_tyW tbOk good reads heavy (t := 27) h hw rfl
  have hl : ((codA 27).enc false m).length = szOf tb 27 := good.len 27 false m
  refine ⟨m, .agg cs _ ?_ fun i v a e1 e2 => (h2 i v a (by simpa using e1) e2).2, wideM_of fun o a e => ?_⟩
  · rw [hl, ← h1]
    simp
  · have ho : o < cs.toList.length := by rw [h1, ← hl]; exact get_lt e
    exact (h2 o _ a (List.getElem?_eq_getElem ho) e).1
end Go.Proofs.Ytggibjbcbicpjaa.Ev
