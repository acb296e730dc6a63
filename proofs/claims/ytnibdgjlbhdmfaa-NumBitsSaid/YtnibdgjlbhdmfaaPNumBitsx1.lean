-- PRINTED BY print.sh 35421559b90ae4d0a3588c463048766b98c2df88dd9212a6774a882060cdf62d: not written by this session
import Derived.Test.YtnibdgjlbhdmfaaPNumBitsx0
namespace Go.Proofs.Ytnibdgjlbhdmfaa.PNumBits
open Go.RowKit Go.Proofs.YtnibdgjlbhdmfaaW.PrintWords Go.Proofs.YtnibdgjlbhdmfaaW.PrintLast Go.Proofs.YtnibdgjlbhdmfaaW.PrintMore
attribute [local go_sem] max2_int min2_int max_two min_two max_three min_three max_four min_four   -- for this text's walks alone
set_option linter.unusedVariables false
set_option linter.unusedSimpArgs false

/-! ### num_bit: function 50 -/
def num_bit.f (a0 : Bool) : Option (Int) := if a0 = true then (some 1) else (some 0)
set_option maxHeartbeats 8000000 in
set_option maxRecDepth 100000 in
theorem num_bit.calls (a0 : Bool) (r : Int) (w : World) (h : num_bit.f a0 = some r) :
    Calls Try.prog 50 #[.bool a0] w fun e w' => e = .returned (.int .i64 r) ∧ Drawn0 w w' := by
  have H : (if a0 = true then (some 1) else (some 0)) = some r := h
  clear h
  by_cases c2 : a0 = true
  · subst c2
    have H1 : (some 1) = some r := by rw [if_pos rfl] at H; exact H
    clear H
    have H := H1
    clear H1
    obtain rfl := Option.some.inj H
    go_enter Try.func50, Try.ntmps50
    go_wp2
    go_ret
    exact ⟨by first | rfl | (simp; done) | (simp [*]; done), by repeat (first | exact Drawn0.refl _ | apply Drawn0.step)⟩
  · replace c2 := Bool.eq_false_iff.mpr c2
    subst c2
    have H1 : (some 0) = some r := by rw [if_neg (show ¬ (false = true) by decide)] at H; exact H
    clear H
    have H := H1
    clear H1
    obtain rfl := Option.some.inj H
    go_enter Try.func50, Try.ntmps50
    go_wp2
    go_ret
    exact ⟨by first | rfl | (simp; done) | (simp [*]; done), by repeat (first | exact Drawn0.refl _ | apply Drawn0.step)⟩

/-! ### num_Do: function 35 -/
def num_Do.j0 : Nat → Int → Int → Int → Int → Bool → Option (Int × Int)
  | 0, _, _, _, _, _ => none
  | k + 1, x0, x1, x2, x8, x24 => if x24 = true then (if x2 = 0 then (some (0, 1)) else (if x0 = 7 then (some (wrap64 (Int.tdiv x1 x2), 0)) else (some (Int.tmod x1 x2, 0)))) else (if x8 = 9 then (some (Go.bits .and .i64 x1 x2, 0)) else (if x8 = 10 then (some (Go.bits .or .i64 x1 x2, 0)) else (if x8 = 11 then (some (Go.bits .xor .i64 x1 x2, 0)) else (if x8 = 12 then (if 0 ≤ (IntKind.u64.wrap (Go.bits .and .i64 x2 63)) then (some (shl .i64 x1 (IntKind.u64.wrap (Go.bits .and .i64 x2 63)), 0)) else (none)) else (if x8 = 13 then (if 0 ≤ (IntKind.u64.wrap (Go.bits .and .i64 x2 63)) then (some (shr .i64 x1 (IntKind.u64.wrap (Go.bits .and .i64 x2 63)), 0)) else (none)) else (if x8 = 14 then ((num_bit.f (x1 == x2)).bind fun t101 => (some (t101, 0))) else (if x8 = 15 then ((num_bit.f (decide (x1 < x2))).bind fun t102 => (some (t102, 0))) else (if x8 = 16 then ((num_bit.f (x1 == 0)).bind fun t103 => (some (t103, 0))) else (some (0, 0))))))))))
def num_Do.f (k : Nat) (a0 : Int) (a1 : Int) (a2 : Int) : Option (Int × Int) := if a0 = 4 then (some (wrap64 (a1 + a2), 0)) else (if a0 = 5 then (some (wrap64 (a1 - a2), 0)) else (if a0 = 6 then (some (wrap64 (a1 * a2), 0)) else (if a0 = 7 then (num_Do.j0 k a0 a1 a2 a0 (a0 == 7)) else (num_Do.j0 k a0 a1 a2 a0 (a0 == 8)))))
theorem num_Do.mono_l : ∀ k, (∀ y0 y1 y2 y3 y4, LeO (num_Do.j0 k y0 y1 y2 y3 y4) (num_Do.j0 (k + 1) y0 y1 y2 y3 y4))
  | 0 => fun _ _ _ _ _ r h => by simp [num_Do.j0] at h
  | k + 1 => by
    have ih0 := num_Do.mono_l k
    · intro y0 y1 y2 y3 y4
      unfold num_Do.j0
      repeat' first
      | (with_reducible exact ih0 _ _ _ _ _)
      | (with_reducible exact LeO.refl _)
      | (with_reducible exact LeO.none _)
      | (with_reducible refine LeO.ite ?_ ?_)
      | (with_reducible refine LeO.bind ?_ (fun _ => ?_))
      | exact ih0 _ _ _ _ _
      | exact LeO.none _
      | refine LeO.ite ?_ ?_
      | refine LeO.bind ?_ (fun _ => ?_)
theorem num_Do.mono : ∀ a0 a1 a2 k, LeO (num_Do.f k a0 a1 a2) (num_Do.f (k + 1) a0 a1 a2) := by
  intro a0 a1 a2 k
  have ih0 := num_Do.mono_l k
  unfold num_Do.f
  repeat' first
      | (with_reducible exact ih0 _ _ _ _ _)
      | (with_reducible exact LeO.refl _)
      | (with_reducible exact LeO.none _)
      | (with_reducible refine LeO.ite ?_ ?_)
      | (with_reducible refine LeO.bind ?_ (fun _ => ?_))
      | exact ih0 _ _ _ _ _
      | exact LeO.none _
      | refine LeO.ite ?_ ?_
      | refine LeO.bind ?_ (fun _ => ?_)
set_option maxHeartbeats 8000000 in
set_option maxRecDepth 100000 in
theorem num_Do.calls (k : Nat) (a0 : Int) (a1 : Int) (a2 : Int) (r1 : Int) (r2 : Int) (w : World) (h : num_Do.f k a0 a1 a2 = some (r1, r2)) :
    Calls Try.prog 35 #[.int .i64 a0, .int .i64 a1, .int .i64 a2] w fun e w' => e = .returned (.tuple #[.int .i64 r1, .int .i64 r2]) ∧ Drawn0 w w' := by
  have H : (if a0 = 4 then (some (wrap64 (a1 + a2), 0)) else (if a0 = 5 then (some (wrap64 (a1 - a2), 0)) else (if a0 = 6 then (some (wrap64 (a1 * a2), 0)) else (if a0 = 7 then (num_Do.j0 k a0 a1 a2 a0 (a0 == 7)) else (num_Do.j0 k a0 a1 a2 a0 (a0 == 8)))))) = some (r1, r2) := h
  clear h
  by_cases c4 : a0 = 4
  · rw [if_pos c4] at H
    have c4b0 : (a0 == 4) = true := beq_iff_eq.mpr c4
    have c4b1 : (a0 != 4) = false := bne_eq_false_iff_eq.mpr c4
    clear c4
    simp only [Option.some.injEq, Prod.mk.injEq] at H
    obtain ⟨rfl, rfl⟩ := H
    go_enter Try.func35, Try.ntmps35
    go_wp2
    go_ret2
    exact ⟨by first | rfl | (simp; done) | (simp [*]; done), by repeat (first | exact Drawn0.refl _ | apply Drawn0.step)⟩
  · rw [if_neg c4] at H
    have c4b0 : (a0 == 4) = false := beq_eq_false_iff_ne.mpr c4
    have c4b1 : (a0 != 4) = true := bne_iff_ne.mpr c4
    by_cases c5 : a0 = 5
    · rw [if_pos c5] at H
      have c5b0 : (a0 == 5) = true := beq_iff_eq.mpr c5
      have c5b1 : (a0 != 5) = false := bne_eq_false_iff_eq.mpr c5
      clear c5
      simp only [Option.some.injEq, Prod.mk.injEq] at H
      obtain ⟨rfl, rfl⟩ := H
      go_enter Try.func35, Try.ntmps35
      go_wp2
      go_ret2
      exact ⟨by first | rfl | (simp; done) | (simp [*]; done), by repeat (first | exact Drawn0.refl _ | apply Drawn0.step)⟩
    · rw [if_neg c5] at H
      have c5b0 : (a0 == 5) = false := beq_eq_false_iff_ne.mpr c5
      have c5b1 : (a0 != 5) = true := bne_iff_ne.mpr c5
      by_cases c6 : a0 = 6
      · rw [if_pos c6] at H
        have c6b0 : (a0 == 6) = true := beq_iff_eq.mpr c6
        have c6b1 : (a0 != 6) = false := bne_eq_false_iff_eq.mpr c6
        clear c6
        simp only [Option.some.injEq, Prod.mk.injEq] at H
        obtain ⟨rfl, rfl⟩ := H
        go_enter Try.func35, Try.ntmps35
        go_wp2
        go_ret2
        exact ⟨by first | rfl | (simp; done) | (simp [*]; done), by repeat (first | exact Drawn0.refl _ | apply Drawn0.step)⟩
      · rw [if_neg c6] at H
        have c6b0 : (a0 == 6) = false := beq_eq_false_iff_ne.mpr c6
        have c6b1 : (a0 != 6) = true := bne_iff_ne.mpr c6
        have HC7 := Aside0.mk H
        clear H
        go_enter Try.func35, Try.ntmps35
        go_upto_if 24 with (fail)
        go_cut [24] (fun v24 wc => ∃ (kq : Nat) (x24_6 : Bool), v24 = .bool x24_6 ∧ Aside0 (num_Do.j0 kq a0 a1 a2 a0 x24_6 = some (r1, r2)) ∧ Aside0 (kq ≤ k) ∧ Drawn0 w wc)
        case first =>
          have H := HC7.out
          clear HC7
          by_cases c8 : a0 = 7
          · rw [if_pos c8] at H
            have c8b0 : (a0 == 7) = true := beq_iff_eq.mpr c8
            have c8b1 : (a0 != 7) = false := bne_eq_false_iff_eq.mpr c8
            clear c8
            (first | rw [c8b0] | (simp only [i64_w, i32_w]; rw [c8b0]) | skip)
            have H' := Aside0.mk H
            clear H
            go_wp2
            go_meet
            case rel => exact ⟨_, ((a0 == 7)), (by first | rfl | (simp; done) | (simp [*]; done)), H', ⟨by first | omega | exact Nat.le_refl _⟩, by repeat (first | exact Drawn0.refl _ | apply Drawn0.step)⟩
          · rw [if_neg c8] at H
            have c8b0 : (a0 == 7) = false := beq_eq_false_iff_ne.mpr c8
            have c8b1 : (a0 != 7) = true := bne_iff_ne.mpr c8
            (first | rw [c8b0] | (simp only [i64_w, i32_w]; rw [c8b0]) | skip)
            have H' := Aside0.mk H
            clear H
            go_wp2
            go_meet
            case rel => exact ⟨_, ((a0 == 8)), (by first | rfl | (simp; done) | (simp [*]; done)), H', ⟨by first | omega | exact Nat.le_refl _⟩, by repeat (first | exact Drawn0.refl _ | apply Drawn0.step)⟩
        case rest =>
          clear HC7
          try clear p2
          try clear c3
          try clear c4
          try clear c4b0
          try clear c4b1
          try clear c5
          try clear c5b0
          try clear c5b1
          try clear c6
          try clear c6b0
          try clear c6b1
          try clear p6
          try clear c8
          try clear c8b0
          try clear c8b1
          obtain ⟨kq, x24_6, rfl, HA, HJ6, ⟨mc6, rfl⟩⟩ := hcut
          cases kq with
          | zero => exact absurd HA.out (by simp [num_Do.j0])
          | succ kj6 =>
            have H := HA.out
            clear HA
            simp only [num_Do.j0] at H
            by_cases c9 : x24_6 = true
            · subst c9
              have H1 : (if a2 = 0 then (some (0, 1)) else (if a0 = 7 then (some (wrap64 (Int.tdiv a1 a2), 0)) else (some (Int.tmod a1 a2, 0)))) = some (r1, r2) := by rw [if_pos rfl] at H; exact H
              clear H
              have H := H1
              clear H1
              by_cases c10 : a2 = 0
              · rw [if_pos c10] at H
                have c10b0 : (a2 == 0) = true := beq_iff_eq.mpr c10
                have c10b1 : (a2 != 0) = false := bne_eq_false_iff_eq.mpr c10
                clear c10
                simp only [Option.some.injEq, Prod.mk.injEq] at H
                obtain ⟨rfl, rfl⟩ := H
                go_wp2
                go_ret2
                exact ⟨by first | rfl | (simp; done) | (simp [*]; done), by repeat (first | exact Drawn0.refl _ | apply Drawn0.step)⟩
              · rw [if_neg c10] at H
                have c10b0 : (a2 == 0) = false := beq_eq_false_iff_ne.mpr c10
                have c10b1 : (a2 != 0) = true := bne_iff_ne.mpr c10
                by_cases c11 : a0 = 7
                · rw [if_pos c11] at H
                  have c11b0 : (a0 == 7) = true := beq_iff_eq.mpr c11
                  have c11b1 : (a0 != 7) = false := bne_eq_false_iff_eq.mpr c11
                  clear c11
                  simp only [Option.some.injEq, Prod.mk.injEq] at H
                  obtain ⟨rfl, rfl⟩ := H
                  go_wp2
                  go_ret2
                  exact ⟨by first | rfl | (simp; done) | (simp [*]; done), by repeat (first | exact Drawn0.refl _ | apply Drawn0.step)⟩
                · rw [if_neg c11] at H
                  have c11b0 : (a0 == 7) = false := beq_eq_false_iff_ne.mpr c11
                  have c11b1 : (a0 != 7) = true := bne_iff_ne.mpr c11
                  simp only [Option.some.injEq, Prod.mk.injEq] at H
                  obtain ⟨rfl, rfl⟩ := H
                  go_wp2
                  go_ret2
                  exact ⟨by first | rfl | (simp; done) | (simp [*]; done), by repeat (first | exact Drawn0.refl _ | apply Drawn0.step)⟩
            · replace c9 := Bool.eq_false_iff.mpr c9
              subst c9
              have H1 : (if a0 = 9 then (some (Go.bits .and .i64 a1 a2, 0)) else (if a0 = 10 then (some (Go.bits .or .i64 a1 a2, 0)) else (if a0 = 11 then (some (Go.bits .xor .i64 a1 a2, 0)) else (if a0 = 12 then (if 0 ≤ (IntKind.u64.wrap (Go.bits .and .i64 a2 63)) then (some (shl .i64 a1 (IntKind.u64.wrap (Go.bits .and .i64 a2 63)), 0)) else (none)) else (if a0 = 13 then (if 0 ≤ (IntKind.u64.wrap (Go.bits .and .i64 a2 63)) then (some (shr .i64 a1 (IntKind.u64.wrap (Go.bits .and .i64 a2 63)), 0)) else (none)) else (if a0 = 14 then ((num_bit.f (a1 == a2)).bind fun t101 => (some (t101, 0))) else (if a0 = 15 then ((num_bit.f (decide (a1 < a2))).bind fun t102 => (some (t102, 0))) else (if a0 = 16 then ((num_bit.f (a1 == 0)).bind fun t103 => (some (t103, 0))) else (some (0, 0)))))))))) = some (r1, r2) := by rw [if_neg (show ¬ (false = true) by decide)] at H; exact H
              clear H
              have H := H1
              clear H1
              by_cases c12 : a0 = 9
              · rw [if_pos c12] at H
                have c12b0 : (a0 == 9) = true := beq_iff_eq.mpr c12
                have c12b1 : (a0 != 9) = false := bne_eq_false_iff_eq.mpr c12
                clear c12
                simp only [Option.some.injEq, Prod.mk.injEq] at H
                obtain ⟨rfl, rfl⟩ := H
                go_wp2
                go_ret2
                exact ⟨by first | rfl | (simp; done) | (simp [*]; done), by repeat (first | exact Drawn0.refl _ | apply Drawn0.step)⟩
              · rw [if_neg c12] at H
                have c12b0 : (a0 == 9) = false := beq_eq_false_iff_ne.mpr c12
                have c12b1 : (a0 != 9) = true := bne_iff_ne.mpr c12
                by_cases c13 : a0 = 10
                · rw [if_pos c13] at H
                  have c13b0 : (a0 == 10) = true := beq_iff_eq.mpr c13
                  have c13b1 : (a0 != 10) = false := bne_eq_false_iff_eq.mpr c13
                  clear c13
                  simp only [Option.some.injEq, Prod.mk.injEq] at H
                  obtain ⟨rfl, rfl⟩ := H
                  go_wp2
                  go_ret2
                  exact ⟨by first | rfl | (simp; done) | (simp [*]; done), by repeat (first | exact Drawn0.refl _ | apply Drawn0.step)⟩
                · rw [if_neg c13] at H
                  have c13b0 : (a0 == 10) = false := beq_eq_false_iff_ne.mpr c13
                  have c13b1 : (a0 != 10) = true := bne_iff_ne.mpr c13
                  by_cases c14 : a0 = 11
                  · rw [if_pos c14] at H
                    have c14b0 : (a0 == 11) = true := beq_iff_eq.mpr c14
                    have c14b1 : (a0 != 11) = false := bne_eq_false_iff_eq.mpr c14
                    clear c14
                    simp only [Option.some.injEq, Prod.mk.injEq] at H
                    obtain ⟨rfl, rfl⟩ := H
                    go_wp2
                    go_ret2
                    exact ⟨by first | rfl | (simp; done) | (simp [*]; done), by repeat (first | exact Drawn0.refl _ | apply Drawn0.step)⟩
                  · rw [if_neg c14] at H
                    have c14b0 : (a0 == 11) = false := beq_eq_false_iff_ne.mpr c14
                    have c14b1 : (a0 != 11) = true := bne_iff_ne.mpr c14
                    by_cases c15 : a0 = 12
                    · rw [if_pos c15] at H
                      have c15b0 : (a0 == 12) = true := beq_iff_eq.mpr c15
                      have c15b1 : (a0 != 12) = false := bne_eq_false_iff_eq.mpr c15
                      clear c15
                      obtain ⟨ji16, hji16⟩ : ∃ j_ : Int, (IntKind.u64.wrap (Go.bits .and .i64 a2 63)) = j_ := ⟨_, rfl⟩
                      replace H : (if 0 ≤ (ji16) then (some (shl .i64 a1 (ji16), 0)) else (none)) = some (r1, r2) := by first | (rw [hji16] at H; exact H) | (simp only [hji16] at H ⊢; exact H)
                      by_cases c17 : 0 ≤ (ji16)
                      · rw [if_pos c17] at H
                        have c17b0 := eq_true c17
                        have c17b1 : decide (0 ≤ (ji16)) = true := decide_eq_true c17
                        clear c17
                        obtain ⟨ji18, hji18⟩ : ∃ j_ : Int, (shl .i64 a1 (ji16)) = j_ := ⟨_, rfl⟩
                        replace H : (some (ji18, 0)) = some (r1, r2) := by first | (rw [hji18] at H; exact H) | (simp only [hji18] at H ⊢; exact H)
                        have hji18_ : (IntKind.i64.wrap (a1 * 2 ^ min (ji16).toNat 64)) = ji18 := hji18
                        have hji18z : (ji16) ≤ 64 → (IntKind.i64.wrap (a1 * 2 ^ (ji16).toNat)) = ji18 := shl_small hji18
                        have hji18y : (wrap64 (a1 * 2 ^ min (ji16).toNat 64)) = ji18 := (i64_w _).symm.trans hji18_
                        have hji18x : (ji16) ≤ 64 → (wrap64 (a1 * 2 ^ (ji16).toNat)) = ji18 := fun h_ => (i64_w _).symm.trans (hji18z h_)
                        simp only [Option.some.injEq, Prod.mk.injEq] at H
                        obtain ⟨rfl, rfl⟩ := H
                        go_wp2
                        go_ret2
                        exact ⟨by first | rfl | (simp; done) | (simp only [← hji16, ← hji18] <;> (first | rfl | simp)) | (simp [*]; done), by repeat (first | exact Drawn0.refl _ | apply Drawn0.step)⟩
                      · rw [if_neg c17] at H
                        exact absurd H (by simp)
                    · rw [if_neg c15] at H
                      have c15b0 : (a0 == 12) = false := beq_eq_false_iff_ne.mpr c15
                      have c15b1 : (a0 != 12) = true := bne_iff_ne.mpr c15
                      by_cases c19 : a0 = 13
                      · rw [if_pos c19] at H
                        have c19b0 : (a0 == 13) = true := beq_iff_eq.mpr c19
                        have c19b1 : (a0 != 13) = false := bne_eq_false_iff_eq.mpr c19
                        clear c19
                        obtain ⟨ji20, hji20⟩ : ∃ j_ : Int, (IntKind.u64.wrap (Go.bits .and .i64 a2 63)) = j_ := ⟨_, rfl⟩
                        replace H : (if 0 ≤ (ji20) then (some (shr .i64 a1 (ji20), 0)) else (none)) = some (r1, r2) := by first | (rw [hji20] at H; exact H) | (simp only [hji20] at H ⊢; exact H)
                        by_cases c21 : 0 ≤ (ji20)
                        · rw [if_pos c21] at H
                          have c21b0 := eq_true c21
                          have c21b1 : decide (0 ≤ (ji20)) = true := decide_eq_true c21
                          clear c21
                          obtain ⟨ji22, hji22⟩ : ∃ j_ : Int, (shr .i64 a1 (ji20)) = j_ := ⟨_, rfl⟩
                          replace H : (some (ji22, 0)) = some (r1, r2) := by first | (rw [hji22] at H; exact H) | (simp only [hji22] at H ⊢; exact H)
                          have hji22_ : (a1 / 2 ^ min (ji20).toNat 64) = ji22 := hji22
                          have hji22z : (ji20) ≤ 64 → (a1 / 2 ^ (ji20).toNat) = ji22 := shr_small hji22
                          simp only [Option.some.injEq, Prod.mk.injEq] at H
                          obtain ⟨rfl, rfl⟩ := H
                          go_wp2
                          go_ret2
                          exact ⟨by first | rfl | (simp; done) | (simp only [← hji20, ← hji22] <;> (first | rfl | simp)) | (simp [*]; done), by repeat (first | exact Drawn0.refl _ | apply Drawn0.step)⟩
                        · rw [if_neg c21] at H
                          exact absurd H (by simp)
                      · rw [if_neg c19] at H
                        have c19b0 : (a0 == 13) = false := beq_eq_false_iff_ne.mpr c19
                        have c19b1 : (a0 != 13) = true := bne_iff_ne.mpr c19
                        by_cases c23 : a0 = 14
                        · rw [if_pos c23] at H
                          have c23b0 : (a0 == 14) = true := beq_iff_eq.mpr c23
                          have c23b1 : (a0 != 14) = false := bne_eq_false_iff_eq.mpr c23
                          clear c23
                          replace H := Option.bind_eq_some_iff.mp H
                          obtain ⟨t101, A240, H⟩ := H
                          replace H : (some (t101, 0)) = some (r1, r2) := H
                          have A24 := Aside0.mk A240
                          clear A240
                          simp only [Option.some.injEq, Prod.mk.injEq] at H
                          obtain ⟨rfl, rfl⟩ := H
                          go_wp2_with (first | ((with_reducible refine gate_callee (f := 50) rfl ?_); refine goesL_ (some 71) rfl rfl Try.func50 (by kernel_rfl) rfl #[.bool (a1 == a2)] rfl (by (try simp only [List.map_toArray, List.map_cons, List.map_nil]); first | done | rfl | (simp only [List.length_drop, List.length_take]; rfl)) ?_; (with_reducible refine (num_bit.calls (a1 == a2) t101 _ A24.out).mono ?_); rintro e w' ⟨rfl, ⟨nd, rfl⟩⟩; refine ⟨_, rfl, ?_⟩))
                          go_ret2
                          exact ⟨by first | rfl | (simp; done) | (simp [*]; done), by repeat (first | exact Drawn0.refl _ | apply Drawn0.step)⟩
                        · rw [if_neg c23] at H
                          have c23b0 : (a0 == 14) = false := beq_eq_false_iff_ne.mpr c23
                          have c23b1 : (a0 != 14) = true := bne_iff_ne.mpr c23
                          by_cases c25 : a0 = 15
                          · rw [if_pos c25] at H
                            have c25b0 : (a0 == 15) = true := beq_iff_eq.mpr c25
                            have c25b1 : (a0 != 15) = false := bne_eq_false_iff_eq.mpr c25
                            clear c25
                            replace H := Option.bind_eq_some_iff.mp H
                            obtain ⟨t102, A260, H⟩ := H
                            replace H : (some (t102, 0)) = some (r1, r2) := H
                            have A26 := Aside0.mk A260
                            clear A260
                            simp only [Option.some.injEq, Prod.mk.injEq] at H
                            obtain ⟨rfl, rfl⟩ := H
                            go_wp2_with (first | ((with_reducible refine gate_callee (f := 50) rfl ?_); refine goesL_ (some 77) rfl rfl Try.func50 (by kernel_rfl) rfl #[.bool (decide (a1 < a2))] rfl (by (try simp only [List.map_toArray, List.map_cons, List.map_nil]); first | done | rfl | (simp only [List.length_drop, List.length_take]; rfl)) ?_; (with_reducible refine (num_bit.calls (decide (a1 < a2)) t102 _ A26.out).mono ?_); rintro e w' ⟨rfl, ⟨nd, rfl⟩⟩; refine ⟨_, rfl, ?_⟩))
                            go_ret2
                            exact ⟨by first | rfl | (simp; done) | (simp [*]; done), by repeat (first | exact Drawn0.refl _ | apply Drawn0.step)⟩
                          · rw [if_neg c25] at H
                            have c25b0 : (a0 == 15) = false := beq_eq_false_iff_ne.mpr c25
                            have c25b1 : (a0 != 15) = true := bne_iff_ne.mpr c25
                            by_cases c27 : a0 = 16
                            · rw [if_pos c27] at H
                              have c27b0 : (a0 == 16) = true := beq_iff_eq.mpr c27
                              have c27b1 : (a0 != 16) = false := bne_eq_false_iff_eq.mpr c27
                              clear c27
                              replace H := Option.bind_eq_some_iff.mp H
                              obtain ⟨t103, A280, H⟩ := H
                              replace H : (some (t103, 0)) = some (r1, r2) := H
                              have A28 := Aside0.mk A280
                              clear A280
                              simp only [Option.some.injEq, Prod.mk.injEq] at H
                              obtain ⟨rfl, rfl⟩ := H
                              go_wp2_with (first | ((with_reducible refine gate_callee (f := 50) rfl ?_); refine goesL_ (some 82) rfl rfl Try.func50 (by kernel_rfl) rfl #[.bool (a1 == 0)] rfl (by (try simp only [List.map_toArray, List.map_cons, List.map_nil]); first | done | rfl | (simp only [List.length_drop, List.length_take]; rfl)) ?_; (with_reducible refine (num_bit.calls (a1 == 0) t103 _ A28.out).mono ?_); rintro e w' ⟨rfl, ⟨nd, rfl⟩⟩; refine ⟨_, rfl, ?_⟩))
                              go_ret2
                              exact ⟨by first | rfl | (simp; done) | (simp [*]; done), by repeat (first | exact Drawn0.refl _ | apply Drawn0.step)⟩
                            · rw [if_neg c27] at H
                              have c27b0 : (a0 == 16) = false := beq_eq_false_iff_ne.mpr c27
                              have c27b1 : (a0 != 16) = true := bne_iff_ne.mpr c27
                              simp only [Option.some.injEq, Prod.mk.injEq] at H
                              obtain ⟨rfl, rfl⟩ := H
                              go_wp2
                              go_ret2
                              exact ⟨by first | rfl | (simp; done) | (simp [*]; done), by repeat (first | exact Drawn0.refl _ | apply Drawn0.step)⟩

/-! ### num_Is: function 37 -/
def num_Is.f (a0 : Int) : Option (Bool) := if a0 ≥ 4 then (some (decide (a0 ≤ 16))) else (some false)
set_option maxHeartbeats 8000000 in
set_option maxRecDepth 100000 in
theorem num_Is.calls (a0 : Int) (r : Bool) (w : World) (h : num_Is.f a0 = some r) :
    Calls Try.prog 37 #[.int .i64 a0] w fun e w' => e = .returned (.bool r) ∧ Drawn0 w w' := by
  have H : (if a0 ≥ 4 then (some (decide (a0 ≤ 16))) else (some false)) = some r := h
  clear h
  by_cases c2 : a0 ≥ 4
  · rw [if_pos c2] at H
    have c2b0 : decide (4 ≤ a0) = true := decide_eq_true c2
    clear c2
    obtain rfl := Option.some.inj H
    go_enter Try.func37, Try.ntmps37
    go_wp2
    go_ret
    exact ⟨by first | rfl | (simp; done) | (simp [*]; done), by repeat (first | exact Drawn0.refl _ | apply Drawn0.step)⟩
  · rw [if_neg c2] at H
    have c2b0 : decide (4 ≤ a0) = false := decide_eq_false c2
    clear c2
    obtain rfl := Option.some.inj H
    go_enter Try.func37, Try.ntmps37
    go_wp2
    go_ret
    exact ⟨by first | rfl | (simp; done) | (simp [*]; done), by repeat (first | exact Drawn0.refl _ | apply Drawn0.step)⟩

/-! ### num_Turns: function 39 -/
def num_Turns.f (a0 : Int) : Option (Bool) := if a0 = 4 then (some true) else (if a0 = 6 then (some true) else (if a0 = 9 then (some true) else (if a0 = 10 then (some true) else (if a0 = 11 then (some true) else (if a0 = 14 then (some true) else (some false))))))
set_option maxHeartbeats 8000000 in
set_option maxRecDepth 100000 in
theorem num_Turns.calls (a0 : Int) (r : Bool) (w : World) (h : num_Turns.f a0 = some r) :
    Calls Try.prog 39 #[.int .i64 a0] w fun e w' => e = .returned (.bool r) ∧ Drawn0 w w' := by
  have H : (if a0 = 4 then (some true) else (if a0 = 6 then (some true) else (if a0 = 9 then (some true) else (if a0 = 10 then (some true) else (if a0 = 11 then (some true) else (if a0 = 14 then (some true) else (some false))))))) = some r := h
  clear h
  by_cases c2 : a0 = 4
  · rw [if_pos c2] at H
    have c2b0 : (a0 == 4) = true := beq_iff_eq.mpr c2
    have c2b1 : (a0 != 4) = false := bne_eq_false_iff_eq.mpr c2
    clear c2
    obtain rfl := Option.some.inj H
    go_enter Try.func39, Try.ntmps39
    go_wp2
    go_ret
    exact ⟨by first | rfl | (simp; done) | (simp [*]; done), by repeat (first | exact Drawn0.refl _ | apply Drawn0.step)⟩
  · rw [if_neg c2] at H
    have c2b0 : (a0 == 4) = false := beq_eq_false_iff_ne.mpr c2
    have c2b1 : (a0 != 4) = true := bne_iff_ne.mpr c2
    by_cases c3 : a0 = 6
    · rw [if_pos c3] at H
      have c3b0 : (a0 == 6) = true := beq_iff_eq.mpr c3
      have c3b1 : (a0 != 6) = false := bne_eq_false_iff_eq.mpr c3
      clear c3
      obtain rfl := Option.some.inj H
      go_enter Try.func39, Try.ntmps39
      go_wp2
      go_ret
      exact ⟨by first | rfl | (simp; done) | (simp [*]; done), by repeat (first | exact Drawn0.refl _ | apply Drawn0.step)⟩
    · rw [if_neg c3] at H
      have c3b0 : (a0 == 6) = false := beq_eq_false_iff_ne.mpr c3
      have c3b1 : (a0 != 6) = true := bne_iff_ne.mpr c3
      by_cases c4 : a0 = 9
      · rw [if_pos c4] at H
        have c4b0 : (a0 == 9) = true := beq_iff_eq.mpr c4
        have c4b1 : (a0 != 9) = false := bne_eq_false_iff_eq.mpr c4
        clear c4
        obtain rfl := Option.some.inj H
        go_enter Try.func39, Try.ntmps39
        go_wp2
        go_ret
        exact ⟨by first | rfl | (simp; done) | (simp [*]; done), by repeat (first | exact Drawn0.refl _ | apply Drawn0.step)⟩
      · rw [if_neg c4] at H
        have c4b0 : (a0 == 9) = false := beq_eq_false_iff_ne.mpr c4
        have c4b1 : (a0 != 9) = true := bne_iff_ne.mpr c4
        by_cases c5 : a0 = 10
        · rw [if_pos c5] at H
          have c5b0 : (a0 == 10) = true := beq_iff_eq.mpr c5
          have c5b1 : (a0 != 10) = false := bne_eq_false_iff_eq.mpr c5
          clear c5
          obtain rfl := Option.some.inj H
          go_enter Try.func39, Try.ntmps39
          go_wp2
          go_ret
          exact ⟨by first | rfl | (simp; done) | (simp [*]; done), by repeat (first | exact Drawn0.refl _ | apply Drawn0.step)⟩
        · rw [if_neg c5] at H
          have c5b0 : (a0 == 10) = false := beq_eq_false_iff_ne.mpr c5
          have c5b1 : (a0 != 10) = true := bne_iff_ne.mpr c5
          by_cases c6 : a0 = 11
          · rw [if_pos c6] at H
            have c6b0 : (a0 == 11) = true := beq_iff_eq.mpr c6
            have c6b1 : (a0 != 11) = false := bne_eq_false_iff_eq.mpr c6
            clear c6
            obtain rfl := Option.some.inj H
            go_enter Try.func39, Try.ntmps39
            go_wp2
            go_ret
            exact ⟨by first | rfl | (simp; done) | (simp [*]; done), by repeat (first | exact Drawn0.refl _ | apply Drawn0.step)⟩
          · rw [if_neg c6] at H
            have c6b0 : (a0 == 11) = false := beq_eq_false_iff_ne.mpr c6
            have c6b1 : (a0 != 11) = true := bne_iff_ne.mpr c6
            by_cases c7 : a0 = 14
            · rw [if_pos c7] at H
              have c7b0 : (a0 == 14) = true := beq_iff_eq.mpr c7
              have c7b1 : (a0 != 14) = false := bne_eq_false_iff_eq.mpr c7
              clear c7
              obtain rfl := Option.some.inj H
              go_enter Try.func39, Try.ntmps39
              go_wp2
              go_ret
              exact ⟨by first | rfl | (simp; done) | (simp [*]; done), by repeat (first | exact Drawn0.refl _ | apply Drawn0.step)⟩
            · rw [if_neg c7] at H
              have c7b0 : (a0 == 14) = false := beq_eq_false_iff_ne.mpr c7
              have c7b1 : (a0 != 14) = true := bne_iff_ne.mpr c7
              obtain rfl := Option.some.inj H
              go_enter Try.func39, Try.ntmps39
              go_wp2
              go_ret
              exact ⟨by first | rfl | (simp; done) | (simp [*]; done), by repeat (first | exact Drawn0.refl _ | apply Drawn0.step)⟩

/-! ### plnlaw1_first: function 34 -/
def plnlaw1_first.f (k : Nat)  : Option (Bool) := (num_Do.f k 7 (-7) 2).bind fun bt104 => ((num_Do.f k 8 5 0).bind fun bt106 => (if bt104.1 = (-3) then (if bt104.2 = 0 then (if bt106.1 = 0 then (if bt106.2 = 1 then ((num_Is.f 4).bind fun t108 => (if t108 = true then ((num_Turns.f 6).bind fun t109 => (some t109)) else (some false))) else (some false)) else (some false)) else (some false)) else (some false)))
theorem plnlaw1_first.mono : ∀ k, LeO (plnlaw1_first.f k ) (plnlaw1_first.f (k + 1) ) := by
  intro  k
  unfold plnlaw1_first.f
  repeat' first
      | (with_reducible exact num_Do.mono _ _ _ _)
      | (with_reducible exact LeO.refl _)
      | (with_reducible exact LeO.none _)
      | (with_reducible refine LeO.ite ?_ ?_)
      | (with_reducible refine LeO.bind ?_ (fun _ => ?_))
      | exact num_Do.mono _ _ _ _
      | exact LeO.none _
      | refine LeO.ite ?_ ?_
      | refine LeO.bind ?_ (fun _ => ?_)
set_option maxHeartbeats 8000000 in
set_option maxRecDepth 100000 in
theorem plnlaw1_first.calls (k : Nat)  (r : Bool) (w : World) (h : plnlaw1_first.f k  = some r) :
    Calls Try.prog 34 #[] w fun e w' => e = .returned (.bool r) ∧ Drawn0 w w' := by
  have H : ((num_Do.f k 7 (-7) 2).bind fun bt104 => ((num_Do.f k 8 5 0).bind fun bt106 => (if bt104.1 = (-3) then (if bt104.2 = 0 then (if bt106.1 = 0 then (if bt106.2 = 1 then ((num_Is.f 4).bind fun t108 => (if t108 = true then ((num_Turns.f 6).bind fun t109 => (some t109)) else (some false))) else (some false)) else (some false)) else (some false)) else (some false)))) = some r := h
  clear h
  replace H := Option.bind_eq_some_iff.mp H
  obtain ⟨⟨t104, t105⟩, A10, H⟩ := H
  replace H : ((num_Do.f k 8 5 0).bind fun bt106 => (if t104 = (-3) then (if t105 = 0 then (if bt106.1 = 0 then (if bt106.2 = 1 then ((num_Is.f 4).bind fun t108 => (if t108 = true then ((num_Turns.f 6).bind fun t109 => (some t109)) else (some false))) else (some false)) else (some false)) else (some false)) else (some false))) = some r := H
  have A1 := Aside0.mk A10
  clear A10
  replace H := Option.bind_eq_some_iff.mp H
  obtain ⟨⟨t106, t107⟩, A20, H⟩ := H
  replace H : (if t104 = (-3) then (if t105 = 0 then (if t106 = 0 then (if t107 = 1 then ((num_Is.f 4).bind fun t108 => (if t108 = true then ((num_Turns.f 6).bind fun t109 => (some t109)) else (some false))) else (some false)) else (some false)) else (some false)) else (some false)) = some r := H
  have A2 := Aside0.mk A20
  clear A20
  by_cases c3 : t104 = (-3)
  · rw [if_pos c3] at H
    have c3b0 : (t104 == (-3)) = true := beq_iff_eq.mpr c3
    have c3b1 : (t104 != (-3)) = false := bne_eq_false_iff_eq.mpr c3
    clear c3
    by_cases c4 : t105 = 0
    · rw [if_pos c4] at H
      have c4b0 : (t105 == 0) = true := beq_iff_eq.mpr c4
      have c4b1 : (t105 != 0) = false := bne_eq_false_iff_eq.mpr c4
      clear c4
      by_cases c5 : t106 = 0
      · rw [if_pos c5] at H
        have c5b0 : (t106 == 0) = true := beq_iff_eq.mpr c5
        have c5b1 : (t106 != 0) = false := bne_eq_false_iff_eq.mpr c5
        clear c5
        by_cases c6 : t107 = 1
        · rw [if_pos c6] at H
          have c6b0 : (t107 == 1) = true := beq_iff_eq.mpr c6
          have c6b1 : (t107 != 1) = false := bne_eq_false_iff_eq.mpr c6
          clear c6
          replace H := Option.bind_eq_some_iff.mp H
          obtain ⟨t108, A70, H⟩ := H
          replace H : (if t108 = true then ((num_Turns.f 6).bind fun t109 => (some t109)) else (some false)) = some r := H
          have A7 := Aside0.mk A70
          clear A70
          by_cases c8 : t108 = true
          · subst c8
            have H1 : ((num_Turns.f 6).bind fun t109 => (some t109)) = some r := by rw [if_pos rfl] at H; exact H
            clear H
            have H := H1
            clear H1
            replace H := Option.bind_eq_some_iff.mp H
            obtain ⟨t109, A90, H⟩ := H
            replace H : (some t109) = some r := H
            have A9 := Aside0.mk A90
            clear A90
            obtain rfl := Option.some.inj H
            go_enter Try.func34, Try.ntmps34
            go_wp2_with (first | ((with_reducible refine gate_callee (f := 35) rfl ?_); refine goesL_ (some 6) rfl rfl Try.func35 (by kernel_rfl) rfl #[.int .i64 7, .int .i64 (-7), .int .i64 2] rfl (by (try simp only [List.map_toArray, List.map_cons, List.map_nil]); first | done | rfl | (simp only [List.length_drop, List.length_take]; rfl)) ?_; (with_reducible refine (num_Do.calls k 7 (-7) 2 t104 t105 _ A1.out).mono ?_); rintro e w' ⟨rfl, ⟨nd, rfl⟩⟩; refine ⟨_, rfl, ?_⟩) | ((with_reducible refine gate_callee (f := 35) rfl ?_); refine goesL_ (some 10) rfl rfl Try.func35 (by kernel_rfl) rfl #[.int .i64 8, .int .i64 5, .int .i64 0] rfl (by (try simp only [List.map_toArray, List.map_cons, List.map_nil]); first | done | rfl | (simp only [List.length_drop, List.length_take]; rfl)) ?_; (with_reducible refine (num_Do.calls k 8 5 0 t106 t107 _ A2.out).mono ?_); rintro e w' ⟨rfl, ⟨nd, rfl⟩⟩; refine ⟨_, rfl, ?_⟩) | (go_at_call 37; (with_reducible refine (num_Is.calls 4 true _ A7.out).mono ?_); rintro e w' ⟨rfl, ⟨nd, rfl⟩⟩) | (go_at_call 39; (with_reducible refine (num_Turns.calls 6 t109 _ A9.out).mono ?_); rintro e w' ⟨rfl, ⟨nd, rfl⟩⟩))
            go_ret
            exact ⟨by first | rfl | (simp; done) | (simp [*]; done), by repeat (first | exact Drawn0.refl _ | apply Drawn0.step)⟩
          · replace c8 := Bool.eq_false_iff.mpr c8
            subst c8
            have H1 : (some false) = some r := by rw [if_neg (show ¬ (false = true) by decide)] at H; exact H
            clear H
            have H := H1
            clear H1
            obtain rfl := Option.some.inj H
            go_enter Try.func34, Try.ntmps34
            go_wp2_with (first | ((with_reducible refine gate_callee (f := 35) rfl ?_); refine goesL_ (some 6) rfl rfl Try.func35 (by kernel_rfl) rfl #[.int .i64 7, .int .i64 (-7), .int .i64 2] rfl (by (try simp only [List.map_toArray, List.map_cons, List.map_nil]); first | done | rfl | (simp only [List.length_drop, List.length_take]; rfl)) ?_; (with_reducible refine (num_Do.calls k 7 (-7) 2 t104 t105 _ A1.out).mono ?_); rintro e w' ⟨rfl, ⟨nd, rfl⟩⟩; refine ⟨_, rfl, ?_⟩) | ((with_reducible refine gate_callee (f := 35) rfl ?_); refine goesL_ (some 10) rfl rfl Try.func35 (by kernel_rfl) rfl #[.int .i64 8, .int .i64 5, .int .i64 0] rfl (by (try simp only [List.map_toArray, List.map_cons, List.map_nil]); first | done | rfl | (simp only [List.length_drop, List.length_take]; rfl)) ?_; (with_reducible refine (num_Do.calls k 8 5 0 t106 t107 _ A2.out).mono ?_); rintro e w' ⟨rfl, ⟨nd, rfl⟩⟩; refine ⟨_, rfl, ?_⟩) | (go_at_call 37; (with_reducible refine (num_Is.calls 4 false _ A7.out).mono ?_); rintro e w' ⟨rfl, ⟨nd, rfl⟩⟩))
            go_ret
            exact ⟨by first | rfl | (simp; done) | (simp [*]; done), by repeat (first | exact Drawn0.refl _ | apply Drawn0.step)⟩
        · rw [if_neg c6] at H
          have c6b0 : (t107 == 1) = false := beq_eq_false_iff_ne.mpr c6
          have c6b1 : (t107 != 1) = true := bne_iff_ne.mpr c6
          obtain rfl := Option.some.inj H
          go_enter Try.func34, Try.ntmps34
          go_wp2_with (first | ((with_reducible refine gate_callee (f := 35) rfl ?_); refine goesL_ (some 6) rfl rfl Try.func35 (by kernel_rfl) rfl #[.int .i64 7, .int .i64 (-7), .int .i64 2] rfl (by (try simp only [List.map_toArray, List.map_cons, List.map_nil]); first | done | rfl | (simp only [List.length_drop, List.length_take]; rfl)) ?_; (with_reducible refine (num_Do.calls k 7 (-7) 2 t104 t105 _ A1.out).mono ?_); rintro e w' ⟨rfl, ⟨nd, rfl⟩⟩; refine ⟨_, rfl, ?_⟩) | ((with_reducible refine gate_callee (f := 35) rfl ?_); refine goesL_ (some 10) rfl rfl Try.func35 (by kernel_rfl) rfl #[.int .i64 8, .int .i64 5, .int .i64 0] rfl (by (try simp only [List.map_toArray, List.map_cons, List.map_nil]); first | done | rfl | (simp only [List.length_drop, List.length_take]; rfl)) ?_; (with_reducible refine (num_Do.calls k 8 5 0 t106 t107 _ A2.out).mono ?_); rintro e w' ⟨rfl, ⟨nd, rfl⟩⟩; refine ⟨_, rfl, ?_⟩))
          go_ret
          exact ⟨by first | rfl | (simp; done) | (simp [*]; done), by repeat (first | exact Drawn0.refl _ | apply Drawn0.step)⟩
      · rw [if_neg c5] at H
        have c5b0 : (t106 == 0) = false := beq_eq_false_iff_ne.mpr c5
        have c5b1 : (t106 != 0) = true := bne_iff_ne.mpr c5
        obtain rfl := Option.some.inj H
        go_enter Try.func34, Try.ntmps34
        go_wp2_with (first | ((with_reducible refine gate_callee (f := 35) rfl ?_); refine goesL_ (some 6) rfl rfl Try.func35 (by kernel_rfl) rfl #[.int .i64 7, .int .i64 (-7), .int .i64 2] rfl (by (try simp only [List.map_toArray, List.map_cons, List.map_nil]); first | done | rfl | (simp only [List.length_drop, List.length_take]; rfl)) ?_; (with_reducible refine (num_Do.calls k 7 (-7) 2 t104 t105 _ A1.out).mono ?_); rintro e w' ⟨rfl, ⟨nd, rfl⟩⟩; refine ⟨_, rfl, ?_⟩) | ((with_reducible refine gate_callee (f := 35) rfl ?_); refine goesL_ (some 10) rfl rfl Try.func35 (by kernel_rfl) rfl #[.int .i64 8, .int .i64 5, .int .i64 0] rfl (by (try simp only [List.map_toArray, List.map_cons, List.map_nil]); first | done | rfl | (simp only [List.length_drop, List.length_take]; rfl)) ?_; (with_reducible refine (num_Do.calls k 8 5 0 t106 t107 _ A2.out).mono ?_); rintro e w' ⟨rfl, ⟨nd, rfl⟩⟩; refine ⟨_, rfl, ?_⟩))
        go_ret
        exact ⟨by first | rfl | (simp; done) | (simp [*]; done), by repeat (first | exact Drawn0.refl _ | apply Drawn0.step)⟩
    · rw [if_neg c4] at H
      have c4b0 : (t105 == 0) = false := beq_eq_false_iff_ne.mpr c4
      have c4b1 : (t105 != 0) = true := bne_iff_ne.mpr c4
      obtain rfl := Option.some.inj H
      go_enter Try.func34, Try.ntmps34
      go_wp2_with (first | ((with_reducible refine gate_callee (f := 35) rfl ?_); refine goesL_ (some 6) rfl rfl Try.func35 (by kernel_rfl) rfl #[.int .i64 7, .int .i64 (-7), .int .i64 2] rfl (by (try simp only [List.map_toArray, List.map_cons, List.map_nil]); first | done | rfl | (simp only [List.length_drop, List.length_take]; rfl)) ?_; (with_reducible refine (num_Do.calls k 7 (-7) 2 t104 t105 _ A1.out).mono ?_); rintro e w' ⟨rfl, ⟨nd, rfl⟩⟩; refine ⟨_, rfl, ?_⟩) | ((with_reducible refine gate_callee (f := 35) rfl ?_); refine goesL_ (some 10) rfl rfl Try.func35 (by kernel_rfl) rfl #[.int .i64 8, .int .i64 5, .int .i64 0] rfl (by (try simp only [List.map_toArray, List.map_cons, List.map_nil]); first | done | rfl | (simp only [List.length_drop, List.length_take]; rfl)) ?_; (with_reducible refine (num_Do.calls k 8 5 0 t106 t107 _ A2.out).mono ?_); rintro e w' ⟨rfl, ⟨nd, rfl⟩⟩; refine ⟨_, rfl, ?_⟩))
      go_ret
      exact ⟨by first | rfl | (simp; done) | (simp [*]; done), by repeat (first | exact Drawn0.refl _ | apply Drawn0.step)⟩
  · rw [if_neg c3] at H
    have c3b0 : (t104 == (-3)) = false := beq_eq_false_iff_ne.mpr c3
    have c3b1 : (t104 != (-3)) = true := bne_iff_ne.mpr c3
    obtain rfl := Option.some.inj H
    go_enter Try.func34, Try.ntmps34
    go_wp2_with (first | ((with_reducible refine gate_callee (f := 35) rfl ?_); refine goesL_ (some 6) rfl rfl Try.func35 (by kernel_rfl) rfl #[.int .i64 7, .int .i64 (-7), .int .i64 2] rfl (by (try simp only [List.map_toArray, List.map_cons, List.map_nil]); first | done | rfl | (simp only [List.length_drop, List.length_take]; rfl)) ?_; (with_reducible refine (num_Do.calls k 7 (-7) 2 t104 t105 _ A1.out).mono ?_); rintro e w' ⟨rfl, ⟨nd, rfl⟩⟩; refine ⟨_, rfl, ?_⟩) | ((with_reducible refine gate_callee (f := 35) rfl ?_); refine goesL_ (some 10) rfl rfl Try.func35 (by kernel_rfl) rfl #[.int .i64 8, .int .i64 5, .int .i64 0] rfl (by (try simp only [List.map_toArray, List.map_cons, List.map_nil]); first | done | rfl | (simp only [List.length_drop, List.length_take]; rfl)) ?_; (with_reducible refine (num_Do.calls k 8 5 0 t106 t107 _ A2.out).mono ?_); rintro e w' ⟨rfl, ⟨nd, rfl⟩⟩; refine ⟨_, rfl, ?_⟩))
    go_ret
    exact ⟨by first | rfl | (simp; done) | (simp [*]; done), by repeat (first | exact Drawn0.refl _ | apply Drawn0.step)⟩

end Go.Proofs.Ytnibdgjlbhdmfaa.PNumBits
