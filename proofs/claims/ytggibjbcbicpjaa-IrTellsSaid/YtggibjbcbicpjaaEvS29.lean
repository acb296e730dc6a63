/- What plnref3.Ints comes to, as a callee. -/
import Derived.Test.YtggibjbcbicpjaaEvC29
namespace Go.Proofs.Ytggibjbcbicpjaa.Ev
open Go
def same3 (a b : List Int) : Bool := decide (a = b)
def S29 : List (AV Ty) → T (AV Ty × List (AV Ty))
  | [.sl false 3 a, .sl false 3 b] => .ite (a.length ≤ 4611686018427387904) inferInstance (.ret (.v (.bool (same3 a b)), [.dead, .dead])) .fail
  | _ => .fail
theorem S29_ok (l : List (AV Ty)) (r : AV Ty) (outs : List (AV Ty)) (h : (S29 l).val = some (r, outs)) : CallOk tb Try.prog 29 l r outs := by
  unfold S29 at h
  split at h
  · rename_i a b
    rcases ite_val h with ⟨e, h⟩ | ⟨_, h⟩
    · cases h
      exact ints_ok a b e
    · cases h
  · cases h
theorem in29 : ∃ fn c, Try.prog.funcs[29]? = some fn ∧ (fn.name == "runtime.NumGoroutine") = false ∧ fn.body = some c := ⟨Try.f29, b29, by kernel_rfl, by kernel_rfl, by kernel_rfl⟩
end Go.Proofs.Ytggibjbcbicpjaa.Ev
