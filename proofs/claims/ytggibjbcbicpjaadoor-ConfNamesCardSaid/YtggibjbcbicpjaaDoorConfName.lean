/- conf.Name: what a pass is called. -/
import Derived.Test.YtggibjbcbicpjaaDoorLex
namespace Go.Proofs.YtggibjbcbicpjaaDoor.Conf
open Go Go.RowKit
set_option linter.unusedVariables false
set_option linter.unusedSimpArgs false
def names : List ByteArray := [⟨#[]⟩, ⟨#[102, 111, 108, 100]⟩, ⟨#[115, 99, 99, 112]⟩, ⟨#[112, 104, 105, 115]⟩, ⟨#[100, 99, 101]⟩, ⟨#[116, 114, 105, 109]⟩, ⟨#[103, 118, 110]⟩, ⟨#[112, 114, 111, 109, 111]⟩, ⟨#[105, 110, 108, 105, 110, 101]⟩, ⟨#[116, 97, 105, 108]⟩, ⟨#[105, 112, 99, 112]⟩, ⟨#[97, 114, 103, 115]⟩, ⟨#[100, 101, 118, 105, 114, 116]⟩, ⟨#[103, 108, 111, 98]⟩, ⟨#[115, 116, 114, 105, 112]⟩]
def nameB (p : Int) : ByteArray := if 0 ≤ p ∧ p < 15 then names.getD p.toNat ⟨#[]⟩ else ⟨#[]⟩
set_option maxRecDepth 100000 in
theorem name_out (p : Int) (hp : ¬ (0 ≤ p ∧ p < 15)) (w : World) :
    Calls Tryd.prog 19 #[.int .i64 p] w fun e w' => e = .returned (.string ⟨#[]⟩) ∧ Below w.heap.size w w' := by
  go_enter Tryd.func19, Tryd.ntmps19
  go_wp2
  all_goals first
    | (go_ret; exact ⟨rfl, (Below.refl _ _).alloc (Nat.le_refl _) _⟩)
    | (exfalso; omega)
set_option maxHeartbeats 8000000 in
set_option maxRecDepth 100000 in
theorem name_ok (p : Int) (w : World) :
    Calls Tryd.prog 19 #[.int .i64 p] w fun e w' => e = .returned (.string (nameB p)) ∧ Below w.heap.size w w' := by
  by_cases hp : 0 ≤ p ∧ p < 15
  · have h : p = 0 ∨ p = 1 ∨ p = 2 ∨ p = 3 ∨ p = 4 ∨ p = 5 ∨ p = 6 ∨ p = 7 ∨ p = 8 ∨ p = 9 ∨ p = 10 ∨ p = 11 ∨ p = 12 ∨ p = 13 ∨ p = 14 := by omega
    clear hp
    rcases h with rfl | rfl | rfl | rfl | rfl | rfl | rfl | rfl | rfl | rfl | rfl | rfl | rfl | rfl | rfl
    all_goals
      go_enter Tryd.func19, Tryd.ntmps19
      go_wp2
      go_ret
      exact ⟨rfl, (Below.refl _ _).alloc (Nat.le_refl _) _⟩
  · unfold nameB
    rw [if_neg hp]
    exact name_out p hp w
end Go.Proofs.YtggibjbcbicpjaaDoor.Conf
