/- The table reads every element's cells. -/
import Derived.Test.YtnibdgjlbhdmfaaEvTz
import Derived.Test.YtnibdgjlbhdmfaaEvMc
namespace Go.Proofs.Ytnibdgjlbhdmfaa.Ev
open Go
set_option linter.unusedVariables false
set_option linter.unusedSimpArgs false
theorem reads : Reads tb := by
  intro t h
  have h : hasA t = true := h
  unfold hasA at h
  split at h
  · refine ⟨by show 0 < 1; omega, [.int .i64], by kernel_rfl, rfl, fun l h => ?_⟩
    match l, h.1 with
    | [a0], _ =>
      obtain ⟨_, rfl⟩ := leaf_int (h.2 0 _ _ rfl rfl)
      exact ⟨_, rfl⟩
  · refine ⟨by show 0 < 1; omega, [.int .i64], by kernel_rfl, rfl, fun l h => ?_⟩
    match l, h.1 with
    | [a0], _ =>
      obtain ⟨_, rfl⟩ := leaf_int (h.2 0 _ _ rfl rfl)
      exact ⟨_, rfl⟩
  · refine ⟨by show 0 < 1; omega, [.bool], by kernel_rfl, rfl, fun l h => ?_⟩
    match l, h.1 with
    | [a0], _ =>
      obtain ⟨_, rfl⟩ := leaf_bool (h.2 0 _ _ rfl rfl)
      exact ⟨_, rfl⟩
  · refine ⟨by show 0 < 1; omega, [.int .u8], by kernel_rfl, rfl, fun l h => ?_⟩
    match l, h.1 with
    | [a0], _ =>
      obtain ⟨_, rfl⟩ := leaf_int (h.2 0 _ _ rfl rfl)
      exact ⟨_, rfl⟩
  · refine ⟨by show 0 < 1; omega, [.int .u8], by kernel_rfl, rfl, fun l h => ?_⟩
    match l, h.1 with
    | [a0], _ =>
      obtain ⟨_, rfl⟩ := leaf_int (h.2 0 _ _ rfl rfl)
      exact ⟨_, rfl⟩
  · refine ⟨by show 0 < 4; omega, [.int .i64, .int .i64, .bool, .int .u8], by kernel_rfl, rfl, fun l h => ?_⟩
    match l, h.1 with
    | [a0, a1, a2, a3], _ =>
      obtain ⟨_, rfl⟩ := leaf_int (h.2 0 _ _ rfl rfl)
      obtain ⟨_, rfl⟩ := leaf_int (h.2 1 _ _ rfl rfl)
      obtain ⟨_, rfl⟩ := leaf_bool (h.2 2 _ _ rfl rfl)
      obtain ⟨_, rfl⟩ := leaf_int (h.2 3 _ _ rfl rfl)
      exact ⟨_, rfl⟩
  · refine ⟨by show 0 < 4; omega, [.int .i64, .int .i64, .bool, .int .u8], by kernel_rfl, rfl, fun l h => ?_⟩
    match l, h.1 with
    | [a0, a1, a2, a3], _ =>
      obtain ⟨_, rfl⟩ := leaf_int (h.2 0 _ _ rfl rfl)
      obtain ⟨_, rfl⟩ := leaf_int (h.2 1 _ _ rfl rfl)
      obtain ⟨_, rfl⟩ := leaf_bool (h.2 2 _ _ rfl rfl)
      obtain ⟨_, rfl⟩ := leaf_int (h.2 3 _ _ rfl rfl)
      exact ⟨_, rfl⟩
  · refine ⟨by show 0 < 1; omega, [.str], by kernel_rfl, rfl, fun l h => ?_⟩
    match l, h.1 with
    | [a0], _ =>
      obtain ⟨_, rfl⟩ := leaf_str (h.2 0 _ _ rfl rfl)
      exact ⟨_, rfl⟩
  · refine ⟨by show 0 < 1; omega, [.str], by kernel_rfl, rfl, fun l h => ?_⟩
    match l, h.1 with
    | [a0], _ =>
      obtain ⟨_, rfl⟩ := leaf_str (h.2 0 _ _ rfl rfl)
      exact ⟨_, rfl⟩
  · refine ⟨by show 0 < 1; omega, [.str], by kernel_rfl, rfl, fun l h => ?_⟩
    match l, h.1 with
    | [a0], _ =>
      obtain ⟨_, rfl⟩ := leaf_str (h.2 0 _ _ rfl rfl)
      exact ⟨_, rfl⟩
  · refine ⟨by show 0 < 1; omega, [.int .u64], by kernel_rfl, rfl, fun l h => ?_⟩
    match l, h.1 with
    | [a0], _ =>
      obtain ⟨_, rfl⟩ := leaf_int (h.2 0 _ _ rfl rfl)
      exact ⟨_, rfl⟩
  · refine ⟨by show 0 < 2; omega, [.str, .int .u64], by kernel_rfl, rfl, fun l h => ?_⟩
    match l, h.1 with
    | [a0, a1], _ =>
      obtain ⟨_, rfl⟩ := leaf_str (h.2 0 _ _ rfl rfl)
      obtain ⟨_, rfl⟩ := leaf_int (h.2 1 _ _ rfl rfl)
      exact ⟨_, rfl⟩
  · refine ⟨by show 0 < 2; omega, [.str, .int .u64], by kernel_rfl, rfl, fun l h => ?_⟩
    match l, h.1 with
    | [a0, a1], _ =>
      obtain ⟨_, rfl⟩ := leaf_str (h.2 0 _ _ rfl rfl)
      obtain ⟨_, rfl⟩ := leaf_int (h.2 1 _ _ rfl rfl)
      exact ⟨_, rfl⟩
  · refine ⟨by show 0 < 1; omega, [.int .i32], by kernel_rfl, rfl, fun l h => ?_⟩
    match l, h.1 with
    | [a0], _ =>
      obtain ⟨_, rfl⟩ := leaf_int (h.2 0 _ _ rfl rfl)
      exact ⟨_, rfl⟩
  · refine ⟨by show 0 < 1; omega, [.sl 32], by kernel_rfl, rfl, fun l h => ?_⟩
    match l, h.1 with
    | [a0], _ =>
      obtain ⟨_, rfl⟩ := leaf_sl (h.2 0 _ _ rfl rfl)
      exact ⟨_, rfl⟩
  · refine ⟨by show 0 < 1; omega, [.sl 30], by kernel_rfl, rfl, fun l h => ?_⟩
    match l, h.1 with
    | [a0], _ =>
      obtain ⟨_, rfl⟩ := leaf_sl (h.2 0 _ _ rfl rfl)
      exact ⟨_, rfl⟩
  · refine ⟨by show 0 < 1; omega, [.sl 30], by kernel_rfl, rfl, fun l h => ?_⟩
    match l, h.1 with
    | [a0], _ =>
      obtain ⟨_, rfl⟩ := leaf_sl (h.2 0 _ _ rfl rfl)
      exact ⟨_, rfl⟩
  · refine ⟨by show 0 < 1; omega, [.sl 30], by kernel_rfl, rfl, fun l h => ?_⟩
    match l, h.1 with
    | [a0], _ =>
      obtain ⟨_, rfl⟩ := leaf_sl (h.2 0 _ _ rfl rfl)
      exact ⟨_, rfl⟩
  · refine ⟨by show 0 < 1; omega, [.sl 2], by kernel_rfl, rfl, fun l h => ?_⟩
    match l, h.1 with
    | [a0], _ =>
      obtain ⟨_, rfl⟩ := leaf_sl (h.2 0 _ _ rfl rfl)
      exact ⟨_, rfl⟩
  · refine ⟨by show 0 < 5; omega, [.int .i64, .int .i64, .int .i64, .int .i64, .sl 2], by kernel_rfl, rfl, fun l h => ?_⟩
    match l, h.1 with
    | [a0, a1, a2, a3, a4], _ =>
      obtain ⟨_, rfl⟩ := leaf_int (h.2 0 _ _ rfl rfl)
      obtain ⟨_, rfl⟩ := leaf_int (h.2 1 _ _ rfl rfl)
      obtain ⟨_, rfl⟩ := leaf_int (h.2 2 _ _ rfl rfl)
      obtain ⟨_, rfl⟩ := leaf_int (h.2 3 _ _ rfl rfl)
      obtain ⟨_, rfl⟩ := leaf_sl (h.2 4 _ _ rfl rfl)
      exact ⟨_, rfl⟩
  · refine ⟨by show 0 < 5; omega, [.int .i64, .int .i64, .int .i64, .int .i64, .sl 2], by kernel_rfl, rfl, fun l h => ?_⟩
    match l, h.1 with
    | [a0, a1, a2, a3, a4], _ =>
      obtain ⟨_, rfl⟩ := leaf_int (h.2 0 _ _ rfl rfl)
      obtain ⟨_, rfl⟩ := leaf_int (h.2 1 _ _ rfl rfl)
      obtain ⟨_, rfl⟩ := leaf_int (h.2 2 _ _ rfl rfl)
      obtain ⟨_, rfl⟩ := leaf_int (h.2 3 _ _ rfl rfl)
      obtain ⟨_, rfl⟩ := leaf_sl (h.2 4 _ _ rfl rfl)
      exact ⟨_, rfl⟩
  · refine ⟨by show 0 < 1; omega, [.int .u64], by kernel_rfl, rfl, fun l h => ?_⟩
    match l, h.1 with
    | [a0], _ =>
      obtain ⟨_, rfl⟩ := leaf_int (h.2 0 _ _ rfl rfl)
      exact ⟨_, rfl⟩
  · refine ⟨by show 0 < 1; omega, [.sl 49], by kernel_rfl, rfl, fun l h => ?_⟩
    match l, h.1 with
    | [a0], _ =>
      obtain ⟨_, rfl⟩ := leaf_sl (h.2 0 _ _ rfl rfl)
      exact ⟨_, rfl⟩
  · refine ⟨by show 0 < 1; omega, [.int .i64], by kernel_rfl, rfl, fun l h => ?_⟩
    match l, h.1 with
    | [a0], _ =>
      obtain ⟨_, rfl⟩ := leaf_int (h.2 0 _ _ rfl rfl)
      exact ⟨_, rfl⟩
  · refine ⟨by show 0 < 1; omega, [.sl 51], by kernel_rfl, rfl, fun l h => ?_⟩
    match l, h.1 with
    | [a0], _ =>
      obtain ⟨_, rfl⟩ := leaf_sl (h.2 0 _ _ rfl rfl)
      exact ⟨_, rfl⟩
  · refine ⟨by show 0 < 1; omega, [.sl 51], by kernel_rfl, rfl, fun l h => ?_⟩
    match l, h.1 with
    | [a0], _ =>
      obtain ⟨_, rfl⟩ := leaf_sl (h.2 0 _ _ rfl rfl)
      exact ⟨_, rfl⟩
  · refine ⟨by show 0 < 1; omega, [.sl 51], by kernel_rfl, rfl, fun l h => ?_⟩
    match l, h.1 with
    | [a0], _ =>
      obtain ⟨_, rfl⟩ := leaf_sl (h.2 0 _ _ rfl rfl)
      exact ⟨_, rfl⟩
  · refine ⟨by show 0 < 2; omega, [.str, .int .i64], by kernel_rfl, rfl, fun l h => ?_⟩
    match l, h.1 with
    | [a0, a1], _ =>
      obtain ⟨_, rfl⟩ := leaf_str (h.2 0 _ _ rfl rfl)
      obtain ⟨_, rfl⟩ := leaf_int (h.2 1 _ _ rfl rfl)
      exact ⟨_, rfl⟩
  · refine ⟨by show 0 < 2; omega, [.str, .int .i64], by kernel_rfl, rfl, fun l h => ?_⟩
    match l, h.1 with
    | [a0, a1], _ =>
      obtain ⟨_, rfl⟩ := leaf_str (h.2 0 _ _ rfl rfl)
      obtain ⟨_, rfl⟩ := leaf_int (h.2 1 _ _ rfl rfl)
      exact ⟨_, rfl⟩
  · refine ⟨by show 0 < 1; omega, [.sl 5], by kernel_rfl, rfl, fun l h => ?_⟩
    match l, h.1 with
    | [a0], _ =>
      obtain ⟨_, rfl⟩ := leaf_sl (h.2 0 _ _ rfl rfl)
      exact ⟨_, rfl⟩
  · refine ⟨by show 0 < 1; omega, [.int .u64], by kernel_rfl, rfl, fun l h => ?_⟩
    match l, h.1 with
    | [a0], _ =>
      obtain ⟨_, rfl⟩ := leaf_int (h.2 0 _ _ rfl rfl)
      exact ⟨_, rfl⟩
  · refine ⟨by show 0 < 1; omega, [.sl 30], by kernel_rfl, rfl, fun l h => ?_⟩
    match l, h.1 with
    | [a0], _ =>
      obtain ⟨_, rfl⟩ := leaf_sl (h.2 0 _ _ rfl rfl)
      exact ⟨_, rfl⟩
  · refine ⟨by show 0 < 1; omega, [.sl 30], by kernel_rfl, rfl, fun l h => ?_⟩
    match l, h.1 with
    | [a0], _ =>
      obtain ⟨_, rfl⟩ := leaf_sl (h.2 0 _ _ rfl rfl)
      exact ⟨_, rfl⟩
  · refine ⟨by show 0 < 1; omega, [.int .u32], by kernel_rfl, rfl, fun l h => ?_⟩
    match l, h.1 with
    | [a0], _ =>
      obtain ⟨_, rfl⟩ := leaf_int (h.2 0 _ _ rfl rfl)
      exact ⟨_, rfl⟩
  · refine ⟨by show 0 < 1; omega, [.int .u8], by kernel_rfl, rfl, fun l h => ?_⟩
    match l, h.1 with
    | [a0], _ =>
      obtain ⟨_, rfl⟩ := leaf_int (h.2 0 _ _ rfl rfl)
      exact ⟨_, rfl⟩
  · refine ⟨by show 0 < 1; omega, [.int .u8], by kernel_rfl, rfl, fun l h => ?_⟩
    match l, h.1 with
    | [a0], _ =>
      obtain ⟨_, rfl⟩ := leaf_int (h.2 0 _ _ rfl rfl)
      exact ⟨_, rfl⟩
  · refine ⟨by show 0 < 1; omega, [.int .i32], by kernel_rfl, rfl, fun l h => ?_⟩
    match l, h.1 with
    | [a0], _ =>
      obtain ⟨_, rfl⟩ := leaf_int (h.2 0 _ _ rfl rfl)
      exact ⟨_, rfl⟩
  · refine ⟨by show 0 < 1; omega, [.int .i32], by kernel_rfl, rfl, fun l h => ?_⟩
    match l, h.1 with
    | [a0], _ =>
      obtain ⟨_, rfl⟩ := leaf_int (h.2 0 _ _ rfl rfl)
      exact ⟨_, rfl⟩
  · cases h
end Go.Proofs.Ytnibdgjlbhdmfaa.Ev
