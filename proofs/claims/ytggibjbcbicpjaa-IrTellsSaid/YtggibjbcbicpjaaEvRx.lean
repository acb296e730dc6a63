/- What the table's rows weigh; a function's argument that is a module's function. -/
import Derived.Test.YtggibjbcbicpjaaEvTr
import Derived.Test.YtggibjbcbicpjaaEvMc
namespace Go.Proofs.Ytggibjbcbicpjaa.Ev
open Go
set_option linter.unusedVariables false
theorem heavy : Heavy tb Try.prog := by
  intro t i e h hd _
  have h : tiA t = some i := h
  unfold tiA at h
  split at h <;> first | cases h | skip
  all_goals first | (cases hd; done) | (cases hd; exact of_decide_eq_true (by kernel_rfl))
end Go.Proofs.Ytggibjbcbicpjaa.Ev
