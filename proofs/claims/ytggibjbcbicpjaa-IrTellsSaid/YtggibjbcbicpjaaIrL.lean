/- A module's function as an argument. -/
import Derived.Test.YtggibjbcbicpjaaIrD
import Derived.Test.YtggibjbcbicpjaaEvC27
import Derived.Test.YtggibjbcbicpjaaEvRx
namespace Go.Proofs.Ytggibjbcbicpjaa.Ev
open Go
set_option linter.unusedVariables false
theorem fine_row {t : Nat} {xs : List (Ty t)} (h : FineW tb (.sl false t xs)) : xs.length ≤ 140737488351232 ∧ ∀ x, x ∈ xs → ∀ (o : Nat) a, ((codA t).enc false x)[o]? = some a → FineW tb a := by
  cases h with
  | sl _ _ h1 h2 => exact ⟨h1, h2⟩
theorem wide_of {f : Ev.Func} (h : ∀ (o : Nat) a, ((codA 33).enc false f)[o]? = some a → FineW tb a) : wideF f := fun b hb => by
  have h4 : FineW tb (.sl false 44 f.blocks) := h 4 _ rfl
  have h5 : FineW tb (.sl false 46 b.ins) := (fine_row h4).2 b hb 0 _ rfl
  exact (fine_row h5).1
theorem open_func {W : World} {H : Type} {enc : TypeId × Value → H} {spare : Nat → Bool} {held : Bool} {fuel : Nat} {cs : Array Value} {x : DataW H × List MemPlace} (h : DataW.trod enc Try.prog W 0 spare held fuel 33 cs.toList = some x) (hw : ∀ n, n ∈ x.1.weights Try.prog 33 → n ≤ reachBytes) :
    ∃ f : Ev.Func, Rep tb (fun b _ => b < W.heap.size) W (.agg cs) (funA f) ∧ wideF f := by
  obtain ⟨f, h1, h2⟩ := open_tyW tbOk good reads heavy (t := 33) h hw rfl
  have hl : ((codA 33).enc false f).length = szOf tb 33 := good.len 33 false f
  refine ⟨f, .agg cs _ ?_ fun i v a e1 e2 => (h2 i v a (by simpa using e1) e2).2, wide_of fun o a e => ?_⟩
  · rw [hl, ← h1]
    simp
  · have ho : o < cs.toList.length := by rw [h1, ← hl]; exact get_lt e
    exact (h2 o _ a (List.getElem?_eq_getElem ho) e).1
theorem weigh {P : Program} {H : Type} {t : TypeId} {ts : List TypeId} {d : DataW H} {ds : List (DataW H)} {j : Nat} (h : (DataW.weightsEach P ts ds).all (· ≤ reachBytes) = true) (h1 : ts[j]? = some t) (h2 : ds[j]? = some d) : ∀ n, n ∈ d.weights P t → n ≤ reachBytes := fun n hn =>
  of_decide_eq_true (List.all_eq_true.1 h n (DataW.weights_mem_each h1 h2 n hn))
end Go.Proofs.Ytggibjbcbicpjaa.Ev
