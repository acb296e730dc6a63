/- What plnref3.SameIns comes to, as a callee. -/
import Derived.Test.YtggibjbcbicpjaaEvC78
namespace Go.Proofs.Ytggibjbcbicpjaa.Ev
open Go
def S78 : List (AV Ty) → T (AV Ty × List (AV Ty))
  | [.agg x, .agg y] => match cod46.dec false x, cod46.dec false y with
    | some a, some b => .ite (a.6.length ≤ 4611686018427387904 ∧ a.7.length ≤ 4611686018427387904) inferInstance (.ret (.v (.bool (sameIns a b)), [.dead, .dead])) .fail
    | _, _ => .fail
  | _ => .fail
theorem S78_ok (l : List (AV Ty)) (r : AV Ty) (outs : List (AV Ty)) (h : (S78 l).val = some (r, outs)) : CallOk tb Try.prog 78 l r outs := by
  unfold S78 at h
  split at h
  · rename_i x y
    split at h
    · rename_i a b e1 e2
      rcases ite_val h with ⟨e, h⟩ | ⟨_, h⟩
      · cases h
        have h1 := cod46_ok.dec false x a e1
        have h2 := cod46_ok.dec false y b e2
        subst h1 h2
        exact sameIns_ok a b e.1 e.2
      · cases h
    · cases h
  · cases h
theorem in78 : ∃ fn c, Try.prog.funcs[78]? = some fn ∧ (fn.name == "runtime.NumGoroutine") = false ∧ fn.body = some c := ⟨Try.f78, b78, by kernel_rfl, by kernel_rfl, by kernel_rfl⟩
end Go.Proofs.Ytggibjbcbicpjaa.Ev
