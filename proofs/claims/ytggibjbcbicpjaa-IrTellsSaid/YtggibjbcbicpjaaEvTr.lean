/- The table reads every element's cells. -/
import Derived.Test.YtggibjbcbicpjaaEvTz
import Derived.Test.YtggibjbcbicpjaaEvMc
namespace Go.Proofs.Ytggibjbcbicpjaa.Ev
open Go
set_option linter.unusedVariables false
set_option linter.unusedSimpArgs false
theorem reads : Reads tb := by
  intro t h
  have h : hasA t = true := h
  unfold hasA at h
  split at h
  · refine ⟨by show 0 < 1; omega, [.int .i64], by kernel_rfl, rfl, fun l h => ?_⟩
    match l, h.1 with
    | [a0], _ =>
      obtain ⟨_, rfl⟩ := leaf_int (h.2 0 _ _ rfl rfl)
      exact ⟨_, rfl⟩
  · refine ⟨by show 0 < 1; omega, [.int .i64], by kernel_rfl, rfl, fun l h => ?_⟩
    match l, h.1 with
    | [a0], _ =>
      obtain ⟨_, rfl⟩ := leaf_int (h.2 0 _ _ rfl rfl)
      exact ⟨_, rfl⟩
  · refine ⟨by show 0 < 1; omega, [.bool], by kernel_rfl, rfl, fun l h => ?_⟩
    match l, h.1 with
    | [a0], _ =>
      obtain ⟨_, rfl⟩ := leaf_bool (h.2 0 _ _ rfl rfl)
      exact ⟨_, rfl⟩
  · refine ⟨by show 0 < 1; omega, [.int .u8], by kernel_rfl, rfl, fun l h => ?_⟩
    match l, h.1 with
    | [a0], _ =>
      obtain ⟨_, rfl⟩ := leaf_int (h.2 0 _ _ rfl rfl)
      exact ⟨_, rfl⟩
  · refine ⟨by show 0 < 1; omega, [.str], by kernel_rfl, rfl, fun l h => ?_⟩
    match l, h.1 with
    | [a0], _ =>
      obtain ⟨_, rfl⟩ := leaf_str (h.2 0 _ _ rfl rfl)
      exact ⟨_, rfl⟩
  · refine ⟨by show 0 < 1; omega, [.sl 91], by kernel_rfl, rfl, fun l h => ?_⟩
    match l, h.1 with
    | [a0], _ =>
      obtain ⟨_, rfl⟩ := leaf_sl (h.2 0 _ _ rfl rfl)
      exact ⟨_, rfl⟩
  · refine ⟨by show 0 < 1; omega, [.sl 94], by kernel_rfl, rfl, fun l h => ?_⟩
    match l, h.1 with
    | [a0], _ =>
      obtain ⟨_, rfl⟩ := leaf_sl (h.2 0 _ _ rfl rfl)
      exact ⟨_, rfl⟩
  · refine ⟨by show 0 < 1; omega, [.sl 96], by kernel_rfl, rfl, fun l h => ?_⟩
    match l, h.1 with
    | [a0], _ =>
      obtain ⟨_, rfl⟩ := leaf_sl (h.2 0 _ _ rfl rfl)
      exact ⟨_, rfl⟩
  · refine ⟨by show 0 < 1; omega, [.sl 33], by kernel_rfl, rfl, fun l h => ?_⟩
    match l, h.1 with
    | [a0], _ =>
      obtain ⟨_, rfl⟩ := leaf_sl (h.2 0 _ _ rfl rfl)
      exact ⟨_, rfl⟩
  · refine ⟨by show 0 < 4; omega, [.sl 91, .sl 94, .sl 96, .sl 33], by kernel_rfl, rfl, fun l h => ?_⟩
    match l, h.1 with
    | [a0, a1, a2, a3], _ =>
      obtain ⟨_, rfl⟩ := leaf_sl (h.2 0 _ _ rfl rfl)
      obtain ⟨_, rfl⟩ := leaf_sl (h.2 1 _ _ rfl rfl)
      obtain ⟨_, rfl⟩ := leaf_sl (h.2 2 _ _ rfl rfl)
      obtain ⟨_, rfl⟩ := leaf_sl (h.2 3 _ _ rfl rfl)
      exact ⟨_, rfl⟩
  · refine ⟨by show 0 < 1; omega, [.sl 3], by kernel_rfl, rfl, fun l h => ?_⟩
    match l, h.1 with
    | [a0], _ =>
      obtain ⟨_, rfl⟩ := leaf_sl (h.2 0 _ _ rfl rfl)
      exact ⟨_, rfl⟩
  · refine ⟨by show 0 < 1; omega, [.sl 44], by kernel_rfl, rfl, fun l h => ?_⟩
    match l, h.1 with
    | [a0], _ =>
      obtain ⟨_, rfl⟩ := leaf_sl (h.2 0 _ _ rfl rfl)
      exact ⟨_, rfl⟩
  · refine ⟨by show 0 < 5; omega, [.str, .bool, .sl 3, .int .i64, .sl 44], by kernel_rfl, rfl, fun l h => ?_⟩
    match l, h.1 with
    | [a0, a1, a2, a3, a4], _ =>
      obtain ⟨_, rfl⟩ := leaf_str (h.2 0 _ _ rfl rfl)
      obtain ⟨_, rfl⟩ := leaf_bool (h.2 1 _ _ rfl rfl)
      obtain ⟨_, rfl⟩ := leaf_sl (h.2 2 _ _ rfl rfl)
      obtain ⟨_, rfl⟩ := leaf_int (h.2 3 _ _ rfl rfl)
      obtain ⟨_, rfl⟩ := leaf_sl (h.2 4 _ _ rfl rfl)
      exact ⟨_, rfl⟩
  · refine ⟨by show 0 < 1; omega, [.sl 46], by kernel_rfl, rfl, fun l h => ?_⟩
    match l, h.1 with
    | [a0], _ =>
      obtain ⟨_, rfl⟩ := leaf_sl (h.2 0 _ _ rfl rfl)
      exact ⟨_, rfl⟩
  · refine ⟨by show 0 < 1; omega, [.sl 46], by kernel_rfl, rfl, fun l h => ?_⟩
    match l, h.1 with
    | [a0], _ =>
      obtain ⟨_, rfl⟩ := leaf_sl (h.2 0 _ _ rfl rfl)
      exact ⟨_, rfl⟩
  · refine ⟨by show 0 < 7; omega, [.int .i64, .int .i64, .int .i64, .int .i64, .int .i64, .sl 3, .sl 3], by kernel_rfl, rfl, fun l h => ?_⟩
    match l, h.1 with
    | [a0, a1, a2, a3, a4, a5, a6], _ =>
      obtain ⟨_, rfl⟩ := leaf_int (h.2 0 _ _ rfl rfl)
      obtain ⟨_, rfl⟩ := leaf_int (h.2 1 _ _ rfl rfl)
      obtain ⟨_, rfl⟩ := leaf_int (h.2 2 _ _ rfl rfl)
      obtain ⟨_, rfl⟩ := leaf_int (h.2 3 _ _ rfl rfl)
      obtain ⟨_, rfl⟩ := leaf_int (h.2 4 _ _ rfl rfl)
      obtain ⟨_, rfl⟩ := leaf_sl (h.2 5 _ _ rfl rfl)
      obtain ⟨_, rfl⟩ := leaf_sl (h.2 6 _ _ rfl rfl)
      exact ⟨_, rfl⟩
  · refine ⟨by show 0 < 1; omega, [.sl 30], by kernel_rfl, rfl, fun l h => ?_⟩
    match l, h.1 with
    | [a0], _ =>
      obtain ⟨_, rfl⟩ := leaf_sl (h.2 0 _ _ rfl rfl)
      exact ⟨_, rfl⟩
  · refine ⟨by show 0 < 1; omega, [.sl 4], by kernel_rfl, rfl, fun l h => ?_⟩
    match l, h.1 with
    | [a0], _ =>
      obtain ⟨_, rfl⟩ := leaf_sl (h.2 0 _ _ rfl rfl)
      exact ⟨_, rfl⟩
  · refine ⟨by show 0 < 3; omega, [.str, .sl 3, .int .i64], by kernel_rfl, rfl, fun l h => ?_⟩
    match l, h.1 with
    | [a0, a1, a2], _ =>
      obtain ⟨_, rfl⟩ := leaf_str (h.2 0 _ _ rfl rfl)
      obtain ⟨_, rfl⟩ := leaf_sl (h.2 1 _ _ rfl rfl)
      obtain ⟨_, rfl⟩ := leaf_int (h.2 2 _ _ rfl rfl)
      exact ⟨_, rfl⟩
  · refine ⟨by show 0 < 1; omega, [.sl 2], by kernel_rfl, rfl, fun l h => ?_⟩
    match l, h.1 with
    | [a0], _ =>
      obtain ⟨_, rfl⟩ := leaf_sl (h.2 0 _ _ rfl rfl)
      exact ⟨_, rfl⟩
  · refine ⟨by show 0 < 2; omega, [.str, .sl 2], by kernel_rfl, rfl, fun l h => ?_⟩
    match l, h.1 with
    | [a0, a1], _ =>
      obtain ⟨_, rfl⟩ := leaf_str (h.2 0 _ _ rfl rfl)
      obtain ⟨_, rfl⟩ := leaf_sl (h.2 1 _ _ rfl rfl)
      exact ⟨_, rfl⟩
  · refine ⟨by show 0 < 2; omega, [.str, .sl 3], by kernel_rfl, rfl, fun l h => ?_⟩
    match l, h.1 with
    | [a0, a1], _ =>
      obtain ⟨_, rfl⟩ := leaf_str (h.2 0 _ _ rfl rfl)
      obtain ⟨_, rfl⟩ := leaf_sl (h.2 1 _ _ rfl rfl)
      exact ⟨_, rfl⟩
  · refine ⟨by show 0 < 1; omega, [.sl 71], by kernel_rfl, rfl, fun l h => ?_⟩
    match l, h.1 with
    | [a0], _ =>
      obtain ⟨_, rfl⟩ := leaf_sl (h.2 0 _ _ rfl rfl)
      exact ⟨_, rfl⟩
  · cases h
end Go.Proofs.Ytggibjbcbicpjaa.Ev
