/- plnlaw3.first: it answers true. -/
import Derived.Test.YtggibjbcbicpjaaIrH
namespace Go.Proofs.Ytggibjbcbicpjaa.Ev
open Go
set_option linter.unusedVariables false
set_option linter.unusedSimpArgs false
noncomputable def b24 : Code := bodyOf Try.f24
noncomputable def C24 : Cfg Ty := ⟨fun
  | 26 => some ([], S26)
  | 31 => some ([], S31)
  | 51 => some ([], S51)
  | _ => none, fun
  | 1 => true
  | 2 => true
  | 3 => true
  | 4 => true
  | 6 => true
  | 8 => true
  | 10 => true
  | _ => false, 73, 0⟩
def U24 : Cuts := ⟨fun _ => none, fun _ => none, fun _ => none⟩
def a24  : List (AV Ty) := []
noncomputable def R24  : St Ty → EvR := resT tb C24 Try.f24.results.toList .keep (a24)
theorem e24 J : run tb C24 U24 J R24 4096 [.code b24] ⟨slotsA a24 0 0, heapA (a24)⟩ =
 some (.v (.bool ([if 1 ≤ 9 ∧ 9 ≤ (↑[1, 1].length : Int) then 9 else (↑([1, 1].length + 1) : Int)].getD (0 + Int.toNat 0) 0 == 3)), []) := by kernel_rfl

theorem in24 : Entered 24 := ⟨Try.f24, b24, by kernel_rfl, by kernel_rfl, by kernel_rfl⟩
theorem fn24  {res : AV Ty} {outs : List (AV Ty)} (h : Ends C24 U24 (R24) [.code b24] ⟨slotsA (a24) 0 0, heapA (a24)⟩ (some (res, outs))) : CallOk tb Try.prog 24 (a24) res outs := by
  obtain ⟨n0, hn⟩ := h
  exact fn_ok (C := C24) (U := U24) (n := 0 + n0) (q := .keep) tbOk good (fun f mu S h => by
    unfold C24 at h
    simp only at h
    split at h
    · cases h; exact ⟨in26, S26_ok⟩
    · cases h; exact ⟨in31, S31_ok⟩
    · cases h; exact ⟨in51, S51_ok⟩
    · cases h) mixed (fn := Try.f24) (body := b24) (by kernel_rfl) (by kernel_rfl) rfl rfl (by show 0 ≤ 73; omega) (hn 0)
theorem first_ok : CallOk tb Try.prog 24 a24 (.v (.bool true)) [] := by
  refine fn24 (.step fun J => ?_)
  rw [e24]
  rfl
def S24 : List (AV Ty) → T (AV Ty × List (AV Ty))
  | [] => .ret (.v (.bool true), [])
  | _ => .fail
theorem S24_ok (l : List (AV Ty)) (r : AV Ty) (outs : List (AV Ty)) (h : (S24 l).val = some (r, outs)) : CallOk tb Try.prog 24 l r outs := by
  unfold S24 at h
  split at h
  · cases h; exact first_ok
  · cases h
end Go.Proofs.Ytggibjbcbicpjaa.Ev
