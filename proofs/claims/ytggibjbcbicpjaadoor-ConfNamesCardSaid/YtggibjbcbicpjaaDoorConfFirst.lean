/- plnlaw32.first; plnlaw32.ConfNames answers true. -/
import Derived.Test.YtggibjbcbicpjaaDoorConfNil
namespace Go.Proofs.YtggibjbcbicpjaaDoor.Conf
open Go Go.RowKit Go.Proofs.YtggibjbcbicpjaaDoorW.PrintWords
open Go.Proofs.YtggibjbcbicpjaaDoor.Num (below_two)
set_option linter.unusedVariables false
set_option linter.unusedSimpArgs false
set_option maxRecDepth 100000 in
theorem first_ok (w : World) : Calls Tryd.prog 18 #[] w fun e w' => e = .returned (.bool true) ∧ Below w.heap.size w w' := by
  go_enter Tryd.func18, Tryd.ntmps18
  go_wp2_with fail
  refine (parse_nil _).mono ?_
  rintro e W1 ⟨rfl, hb1⟩
  go_wp2_with fail
  refine (name_ok 1 _).mono ?_
  rintro e W2 ⟨rfl, hb2⟩
  have e1 : nameB 1 = ⟨#[102, 111, 108, 100]⟩ := rfl
  rw [e1]
  have hg : W2.heap[W1.heap.size]? = some (.cells #[.int .i64 1, .int .i64 0, .int .i64 0, .slice none 0 0] 51 (0, 0)) := (hb2.block _ (by show W1.heap.size < (W1.heap.push _).size; simp)).trans (blk_new W1 _)
  have d0 := blk_cell hg 0
  have d1 := blk_cell hg 1
  have d2 := blk_cell hg 2
  have d3 := blk_cell hg 3
  go_wp2_with fail
  refine (check_nil _).mono ?_
  rintro e W3 ⟨rfl, hb3⟩
  go_wp2_with fail
  go_ret
  have ha : Below W1.heap.size W1 (W1.alloc (.cells #[.int .i64 1, .int .i64 0, .int .i64 0, .slice none 0 0] 51)) := (Below.refl _ _).alloc (Nat.le_refl _) _
  exact ⟨rfl, below_two (below_two (below_two hb1 ha) hb2) hb3⟩
theorem nE (p : Int) : (nameB p).toList.isEmpty = !(decide (1 ≤ p) && decide (p ≤ 14)) := by
  unfold nameB
  by_cases hp : 0 ≤ p ∧ p < 15
  · rw [if_pos hp]
    have h : p = 0 ∨ p = 1 ∨ p = 2 ∨ p = 3 ∨ p = 4 ∨ p = 5 ∨ p = 6 ∨ p = 7 ∨ p = 8 ∨ p = 9 ∨ p = 10 ∨ p = 11 ∨ p = 12 ∨ p = 13 ∨ p = 14 := by omega
    rcases h with rfl | rfl | rfl | rfl | rfl | rfl | rfl | rfl | rfl | rfl | rfl | rfl | rfl | rfl | rfl <;> decide +kernel
  · rw [if_neg hp]
    have e0 : (⟨#[]⟩ : ByteArray).toList.isEmpty = true := by decide +kernel
    rw [e0]
    by_cases h1 : 1 ≤ p
    · rw [decide_eq_true h1, decide_eq_false (by omega)]; rfl
    · rw [decide_eq_false h1]; rfl
theorem names_inj : ∀ a, a < 15 → ∀ b, b < 15 → ((names.getD a ⟨#[]⟩).toList == (names.getD b ⟨#[]⟩).toList) = (a == b) := by decide +kernel
theorem nEq (p q : Int) : ((nameB p).toList == (nameB q).toList) = (p == q || (!(decide (1 ≤ p) && decide (p ≤ 14)) && !(decide (1 ≤ q) && decide (q ≤ 14)))) := by
  by_cases hp : 1 ≤ p ∧ p ≤ 14
  · by_cases hq : 1 ≤ q ∧ q ≤ 14
    · obtain ⟨a, rfl⟩ : ∃ a : Nat, p = a := ⟨p.toNat, by omega⟩
      obtain ⟨b, rfl⟩ : ∃ b : Nat, q = b := ⟨q.toNat, by omega⟩
      have e := names_inj a (by omega) b (by omega)
      have e1 : nameB (a : Int) = names.getD a ⟨#[]⟩ := by unfold nameB; rw [if_pos (by omega)]; rfl
      have e2 : nameB (b : Int) = names.getD b ⟨#[]⟩ := by unfold nameB; rw [if_pos (by omega)]; rfl
      rw [e1, e2, e, decide_eq_true hp.1, decide_eq_true hp.2]
      simp [Bool.beq_eq_decide_eq]
      omega
    · have h1 := nE p
      have h2 := nE q
      rw [decide_eq_true hp.1, decide_eq_true hp.2] at h1
      have h3 : (decide (1 ≤ q) && decide (q ≤ 14)) = false := by
        rw [Bool.and_eq_false_iff, decide_eq_false_iff_not, decide_eq_false_iff_not]; omega
      rw [h3] at h2 ⊢
      rw [decide_eq_true hp.1, decide_eq_true hp.2]
      have hne : (p == q) = false := beq_eq_false_iff_ne.2 (by intro e; subst e; exact hq hp)
      rw [hne]
      refine beq_eq_false_iff_ne.2 fun e => ?_
      rw [e, h2] at h1
      cases h1
  · have h3 : (decide (1 ≤ p) && decide (p ≤ 14)) = false := by
      rw [Bool.and_eq_false_iff, decide_eq_false_iff_not, decide_eq_false_iff_not]; omega
    have h1 := nE p
    have h2 := nE q
    rw [h3] at h1 ⊢
    have e1 : (nameB p).toList = [] := List.isEmpty_iff.1 h1
    by_cases hq : 1 ≤ q ∧ q ≤ 14
    · rw [decide_eq_true hq.1, decide_eq_true hq.2] at h2 ⊢
      have hne : (p == q) = false := beq_eq_false_iff_ne.2 (by intro e; subst e; exact hp hq)
      rw [hne]
      refine beq_eq_false_iff_ne.2 fun e => ?_
      rw [← e, e1] at h2
      cases h2
    · have h4 : (decide (1 ≤ q) && decide (q ≤ 14)) = false := by
        rw [Bool.and_eq_false_iff, decide_eq_false_iff_not, decide_eq_false_iff_not]; omega
      rw [h4] at h2 ⊢
      have e2 : (nameB q).toList = [] := List.isEmpty_iff.1 h2
      rw [e1, e2]
      simp
set_option maxRecDepth 100000 in
theorem names_ok (p q : Int) (w : World) : Calls Tryd.prog 5 #[.int .i64 p, .int .i64 q] w fun e w' => e = .returned (.bool true) ∧ Below w.heap.size w w' := by
  go_enter Tryd.func5, Tryd.ntmps5
  go_wp2_with fail
  refine (first_ok _).mono ?_
  rintro e W1 ⟨rfl, hb1⟩
  go_wp2_with fail
  refine (name_ok p _).mono ?_
  rintro e W2 ⟨rfl, hb2⟩
  go_wp2_with fail
  refine (name_ok q _).mono ?_
  rintro e W3 ⟨rfl, hb3⟩
  have hB := below_two (below_two hb1 hb2) hb3
  have nA := nE p
  have nB := nE q
  have nAB := nEq p q
  generalize nameB p = A at *
  generalize nameB q = B at *
  clear hb1 hb2 hb3
  go_wp2_with fail
  all_goals first
    | (exfalso; simp_all; done)
    | (exfalso; simp_all; omega)
    | (go_ret; exact ⟨by simp_all, hB⟩)
    | (go_ret; exact ⟨by simp_all; omega, hB⟩)
    | trace_state
end Go.Proofs.YtggibjbcbicpjaaDoor.Conf
