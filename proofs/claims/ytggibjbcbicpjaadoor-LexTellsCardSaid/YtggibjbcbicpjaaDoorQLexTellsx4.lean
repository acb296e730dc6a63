-- Laid by a program of this session out of Lean's print of the program.
import Derived.Test.YtggibjbcbicpjaaDoorQLexTellsx0
namespace Go.Proofs.YtggibjbcbicpjaaDoor.QLexTells
open Go.RowKit Go.Proofs.YtggibjbcbicpjaaDoorW.PrintWords Go.Proofs.YtggibjbcbicpjaaDoorW.PrintLast Go.Proofs.YtggibjbcbicpjaaDoorW.PrintMore
open Go.Proofs.YtggibjbcbicpjaaDoor.QLexWhere
attribute [local go_sem] max2_int min2_int max_two min_two max_three min_three max_four min_four   -- for this text's walks alone
set_option linter.unusedVariables false
set_option linter.unusedSimpArgs false

/-! ### plnref1_Lines: function 11 -/
mutual
def plnref1_Lines.l0 : Nat → ByteArray → Int → Option ((List (List (S36))) × Int × Int)
  | 0, _, _ => none
  | k + 1, x0, x5 => if x5 < (x0.size : Int) then (if 0 ≤ x5 then (if (bt x0 x5) = 9 then (plnref1_Lines.l0 k x0 (wrap64 (x5 + 1))) else (if (bt x0 x5) = 10 then (plnref1_Lines.l0 k x0 (wrap64 (x5 + 1))) else (if (bt x0 x5) < 32 then (some (([] : List (List (S36))), x5, 1)) else (if (bt x0 x5) > 126 then (some (([] : List (List (S36))), x5, 1)) else (plnref1_Lines.l0 k x0 (wrap64 (x5 + 1))))))) else (none)) else (plnref1_Lines.l1 k x0 ([] : List (List (S36))) ([] : List (S36)) (-1) false 0)
def plnref1_Lines.l1 : Nat → ByteArray → List (List (S36)) → List (S36) → Int → Bool → Int → Option ((List (List (S36))) × Int × Int)
  | 0, _, _, _, _, _, _ => none
  | k + 1, x0, x7, x8, x9, x10, x11 => if x11 ≤ (x0.size : Int) then (if x11 = (x0.size : Int) then (plnref1_Lines.j2 k x0 x7 x8 x9 x10 x11 true) else (if 0 ≤ x11 then (if x11 < (x0.size : Int) then (plnref1_Lines.j2 k x0 x7 x8 x9 x10 x11 ((bt x0 x11) == 10)) else (none)) else (none))) else (some (x7, 0, 0))
def plnref1_Lines.j2 : Nat → ByteArray → List (List (S36)) → List (S36) → Int → Bool → Int → Bool → Option ((List (List (S36))) × Int × Int)
  | 0, _, _, _, _, _, _, _ => none
  | k + 1, x0, x7, x8, x9, x10, x11, x12 => if x9 ≥ 0 then (if x12 = true then (plnref1_Lines.j3 k x0 x7 x8 x9 x10 x11 x12 true) else (if 0 ≤ x11 then (if x11 < (x0.size : Int) then (if (bt x0 x11) = 9 then (plnref1_Lines.j3 k x0 x7 x8 x9 x10 x11 x12 true) else (if (bt x0 x11) = 32 then (plnref1_Lines.j3 k x0 x7 x8 x9 x10 x11 x12 true) else (plnref1_Lines.j3 k x0 x7 x8 x9 x10 x11 x12 ((bt x0 x11) == 35)))) else (none)) else (none))) else (plnref1_Lines.j3 k x0 x7 x8 x9 x10 x11 x12 false)
def plnref1_Lines.j3 : Nat → ByteArray → List (List (S36)) → List (S36) → Int → Bool → Int → Bool → Bool → Option ((List (List (S36))) × Int × Int)
  | 0, _, _, _, _, _, _, _, _ => none
  | k + 1, x0, x7, x8, x9, x10, x11, x12, x78 => if x78 = true then (if 0 ≤ x9 then (if x9 ≤ x11 then (if x11 ≤ (x0.size : Int) then (if x8.length < 5864062014805 then (plnref1_Lines.j4 k x0 x7 (x8 ++ [(⟨x0.extract (x9 : Int).toNat (x11 : Int).toNat, x9⟩ : S36)]) (-1) x10 x11 x12) else (none)) else (none)) else (none)) else (none)) else (plnref1_Lines.j4 k x0 x7 x8 x9 x10 x11 x12)
def plnref1_Lines.j4 : Nat → ByteArray → List (List (S36)) → List (S36) → Int → Bool → Int → Bool → Option ((List (List (S36))) × Int × Int)
  | 0, _, _, _, _, _, _, _ => none
  | k + 1, x0, x7, x8, x9, x10, x11, x12 => if x12 = true then (if (x8.length : Int) > 0 then (if x7.length < 5864062014805 then (plnref1_Lines.l1 k x0 (x7 ++ [x8]) ([] : List (S36)) x9 false (wrap64 (x11 + 1))) else (none)) else (plnref1_Lines.l1 k x0 x7 ([] : List (S36)) x9 false (wrap64 (x11 + 1)))) else (if x10 = true then (plnref1_Lines.l1 k x0 x7 x8 x9 true (wrap64 (x11 + 1))) else (if 0 ≤ x11 then (if x11 < (x0.size : Int) then (if ((bt x0 x11) = 35) then (plnref1_Lines.l1 k x0 x7 x8 x9 ((bt x0 x11) == 35) (wrap64 (x11 + 1))) else (if x9 < 0 then (if (bt x0 x11) = 9 then (plnref1_Lines.l1 k x0 x7 x8 x9 ((bt x0 x11) == 35) (wrap64 (x11 + 1))) else (if (bt x0 x11) = 32 then (plnref1_Lines.l1 k x0 x7 x8 x9 ((bt x0 x11) == 35) (wrap64 (x11 + 1))) else (plnref1_Lines.l1 k x0 x7 x8 x11 ((bt x0 x11) == 35) (wrap64 (x11 + 1))))) else (plnref1_Lines.l1 k x0 x7 x8 x9 ((bt x0 x11) == 35) (wrap64 (x11 + 1))))) else (none)) else (none)))
end
def plnref1_Lines.f (k : Nat) (a0 : ByteArray) : Option ((List (List (S36))) × Int × Int) := if (a0.size : Int) > 4194304 then (some (([] : List (List (S36))), 0, 2)) else (plnref1_Lines.l0 k a0 0)
theorem plnref1_Lines.mono_l : ∀ k, (∀ y0 y1, LeO (plnref1_Lines.l0 k y0 y1) (plnref1_Lines.l0 (k + 1) y0 y1)) ∧ (∀ y0 y1 y2 y3 y4 y5, LeO (plnref1_Lines.l1 k y0 y1 y2 y3 y4 y5) (plnref1_Lines.l1 (k + 1) y0 y1 y2 y3 y4 y5)) ∧ (∀ y0 y1 y2 y3 y4 y5 y6, LeO (plnref1_Lines.j2 k y0 y1 y2 y3 y4 y5 y6) (plnref1_Lines.j2 (k + 1) y0 y1 y2 y3 y4 y5 y6)) ∧ (∀ y0 y1 y2 y3 y4 y5 y6 y7, LeO (plnref1_Lines.j3 k y0 y1 y2 y3 y4 y5 y6 y7) (plnref1_Lines.j3 (k + 1) y0 y1 y2 y3 y4 y5 y6 y7)) ∧ (∀ y0 y1 y2 y3 y4 y5 y6, LeO (plnref1_Lines.j4 k y0 y1 y2 y3 y4 y5 y6) (plnref1_Lines.j4 (k + 1) y0 y1 y2 y3 y4 y5 y6))
  | 0 => ⟨fun _ _ r h => by simp [plnref1_Lines.l0] at h, fun _ _ _ _ _ _ r h => by simp [plnref1_Lines.l1] at h, fun _ _ _ _ _ _ _ r h => by simp [plnref1_Lines.j2] at h, fun _ _ _ _ _ _ _ _ r h => by simp [plnref1_Lines.j3] at h, fun _ _ _ _ _ _ _ r h => by simp [plnref1_Lines.j4] at h⟩
  | k + 1 => by
    obtain ⟨ih0, ih1, ih2, ih3, ih4⟩ := plnref1_Lines.mono_l k
    refine ⟨?_, ?_, ?_, ?_, ?_⟩
    · intro y0 y1
      unfold plnref1_Lines.l0
      repeat' first
      | (with_reducible exact ih0 _ _)
      | (with_reducible exact ih1 _ _ _ _ _ _)
      | (with_reducible exact ih2 _ _ _ _ _ _ _)
      | (with_reducible exact ih3 _ _ _ _ _ _ _ _)
      | (with_reducible exact ih4 _ _ _ _ _ _ _)
      | (with_reducible exact LeO.refl _)
      | (with_reducible exact LeO.none _)
      | (with_reducible refine LeO.ite ?_ ?_)
      | (with_reducible refine LeO.bind ?_ (fun _ => ?_))
      | exact ih0 _ _
      | exact ih1 _ _ _ _ _ _
      | exact ih2 _ _ _ _ _ _ _
      | exact ih3 _ _ _ _ _ _ _ _
      | exact ih4 _ _ _ _ _ _ _
      | exact LeO.none _
      | refine LeO.ite ?_ ?_
      | refine LeO.bind ?_ (fun _ => ?_)
    · intro y0 y1 y2 y3 y4 y5
      unfold plnref1_Lines.l1
      repeat' first
      | (with_reducible exact ih0 _ _)
      | (with_reducible exact ih1 _ _ _ _ _ _)
      | (with_reducible exact ih2 _ _ _ _ _ _ _)
      | (with_reducible exact ih3 _ _ _ _ _ _ _ _)
      | (with_reducible exact ih4 _ _ _ _ _ _ _)
      | (with_reducible exact LeO.refl _)
      | (with_reducible exact LeO.none _)
      | (with_reducible refine LeO.ite ?_ ?_)
      | (with_reducible refine LeO.bind ?_ (fun _ => ?_))
      | exact ih0 _ _
      | exact ih1 _ _ _ _ _ _
      | exact ih2 _ _ _ _ _ _ _
      | exact ih3 _ _ _ _ _ _ _ _
      | exact ih4 _ _ _ _ _ _ _
      | exact LeO.none _
      | refine LeO.ite ?_ ?_
      | refine LeO.bind ?_ (fun _ => ?_)
    · intro y0 y1 y2 y3 y4 y5 y6
      unfold plnref1_Lines.j2
      repeat' first
      | (with_reducible exact ih0 _ _)
      | (with_reducible exact ih1 _ _ _ _ _ _)
      | (with_reducible exact ih2 _ _ _ _ _ _ _)
      | (with_reducible exact ih3 _ _ _ _ _ _ _ _)
      | (with_reducible exact ih4 _ _ _ _ _ _ _)
      | (with_reducible exact LeO.refl _)
      | (with_reducible exact LeO.none _)
      | (with_reducible refine LeO.ite ?_ ?_)
      | (with_reducible refine LeO.bind ?_ (fun _ => ?_))
      | exact ih0 _ _
      | exact ih1 _ _ _ _ _ _
      | exact ih2 _ _ _ _ _ _ _
      | exact ih3 _ _ _ _ _ _ _ _
      | exact ih4 _ _ _ _ _ _ _
      | exact LeO.none _
      | refine LeO.ite ?_ ?_
      | refine LeO.bind ?_ (fun _ => ?_)
    · intro y0 y1 y2 y3 y4 y5 y6 y7
      unfold plnref1_Lines.j3
      repeat' first
      | (with_reducible exact ih0 _ _)
      | (with_reducible exact ih1 _ _ _ _ _ _)
      | (with_reducible exact ih2 _ _ _ _ _ _ _)
      | (with_reducible exact ih3 _ _ _ _ _ _ _ _)
      | (with_reducible exact ih4 _ _ _ _ _ _ _)
      | (with_reducible exact LeO.refl _)
      | (with_reducible exact LeO.none _)
      | (with_reducible refine LeO.ite ?_ ?_)
      | (with_reducible refine LeO.bind ?_ (fun _ => ?_))
      | exact ih0 _ _
      | exact ih1 _ _ _ _ _ _
      | exact ih2 _ _ _ _ _ _ _
      | exact ih3 _ _ _ _ _ _ _ _
      | exact ih4 _ _ _ _ _ _ _
      | exact LeO.none _
      | refine LeO.ite ?_ ?_
      | refine LeO.bind ?_ (fun _ => ?_)
    · intro y0 y1 y2 y3 y4 y5 y6
      unfold plnref1_Lines.j4
      repeat' first
      | (with_reducible exact ih0 _ _)
      | (with_reducible exact ih1 _ _ _ _ _ _)
      | (with_reducible exact ih2 _ _ _ _ _ _ _)
      | (with_reducible exact ih3 _ _ _ _ _ _ _ _)
      | (with_reducible exact ih4 _ _ _ _ _ _ _)
      | (with_reducible exact LeO.refl _)
      | (with_reducible exact LeO.none _)
      | (with_reducible refine LeO.ite ?_ ?_)
      | (with_reducible refine LeO.bind ?_ (fun _ => ?_))
      | exact ih0 _ _
      | exact ih1 _ _ _ _ _ _
      | exact ih2 _ _ _ _ _ _ _
      | exact ih3 _ _ _ _ _ _ _ _
      | exact ih4 _ _ _ _ _ _ _
      | exact LeO.none _
      | refine LeO.ite ?_ ?_
      | refine LeO.bind ?_ (fun _ => ?_)
theorem plnref1_Lines.mono : ∀ a0 k, LeO (plnref1_Lines.f k a0) (plnref1_Lines.f (k + 1) a0) := by
  intro a0 k
  obtain ⟨ih0, ih1, ih2, ih3, ih4⟩ := plnref1_Lines.mono_l k
  unfold plnref1_Lines.f
  repeat' first
      | (with_reducible exact ih0 _ _)
      | (with_reducible exact ih1 _ _ _ _ _ _)
      | (with_reducible exact ih2 _ _ _ _ _ _ _)
      | (with_reducible exact ih3 _ _ _ _ _ _ _ _)
      | (with_reducible exact ih4 _ _ _ _ _ _ _)
      | (with_reducible exact LeO.refl _)
      | (with_reducible exact LeO.none _)
      | (with_reducible refine LeO.ite ?_ ?_)
      | (with_reducible refine LeO.bind ?_ (fun _ => ?_))
      | exact ih0 _ _
      | exact ih1 _ _ _ _ _ _
      | exact ih2 _ _ _ _ _ _ _
      | exact ih3 _ _ _ _ _ _ _ _
      | exact ih4 _ _ _ _ _ _ _
      | exact LeO.none _
      | refine LeO.ite ?_ ?_
      | refine LeO.bind ?_ (fun _ => ?_)
set_option maxHeartbeats 8000000 in
set_option maxRecDepth 100000 in
theorem plnref1_Lines.calls (k : Nat) (a0 : ByteArray) (r1 : List (List (S36))) (r2 : Int) (r3 : Int) (w : World) (h : plnref1_Lines.f k a0 = some (r1, r2, r3)) :
    Calls Tryd.prog 11 #[.string a0] w fun e w' => ∃ v0_ : Value, e = .returned (.tuple #[v0_, .int .i64 r2, .int .i64 r3]) ∧ Kd.S (Kd.slice 36 k36) 33 w' w.heap.size (fun _ => True) v0_ r1 ∧ Below w.heap.size w w' := by
  have hu36 := Tryd.underlying36
  have HB := Aside0.mk (Below.refl w.heap.size w)
  have H : (if (a0.size : Int) > 4194304 then (some (([] : List (List (S36))), 0, 2)) else (plnref1_Lines.l0 k a0 0)) = some (r1, r2, r3) := h
  clear h
  by_cases c2 : (a0.size : Int) > 4194304
  · rw [if_pos c2] at H
    have c2b0 : decide (4194304 < (a0.size : Int)) = true := decide_eq_true c2
    have c2b1 : decide (4194304 < a0.size) = true := decide_eq_true (by omega)
    clear c2
    simp only [Option.some.injEq, Prod.mk.injEq] at H
    obtain ⟨rfl, rfl, rfl⟩ := H
    go_enter Tryd.func11, Tryd.ntmps11
    go_wp2
    go_ret3
    exact ⟨_, by first | rfl | (simp [errW_none, errW_some] <;> rfl) | (simp [*, errW_none, errW_some] <;> rfl), by first | exact Kd.S_nil _ _ _ _ _ | exact Kd.N_nil _ _ _ _ _ | exact Kd.V_nil _ _ _ _ _ | exact Kd.Q_nil _ _ _ _ _ | exact Kd.R_nil _ _ _ _ _, by repeat (first | (with_reducible first | exact HB.out | apply below_alloc | apply pw_below_drewN | apply below_drew1) | exact HB.out)⟩
  · rw [if_neg c2] at H
    have c2b0 : decide (4194304 < (a0.size : Int)) = false := decide_eq_false c2
    have c2b1 : decide (4194304 < a0.size) = false := decide_eq_false (by omega)
    clear c2
    have H' := Aside0.mk H
    clear H
    go_enter Tryd.func11, Tryd.ntmps11
    go_wp2
    go_loopg [5] k (fun kq v5 w' => ∃ (x5_1 : Int), v5 = .int .i64 x5_1 ∧ Aside0 (plnref1_Lines.l0 kq a0 x5_1 = some (r1, r2, r3)) ∧ Aside0 (kq ≤ k) ∧ Aside0 (Below w.heap.size w w'))
    case atStart => exact ⟨(0), (by first | rfl | (simp; done) | (simp [*]; done)), H', ⟨Nat.le_refl _⟩, ⟨by repeat (first | (with_reducible first | exact HB.out | apply below_alloc | apply pw_below_drewN | apply below_drew1) | exact HB.out)⟩⟩
    case round =>
      clear H'
      try clear c1
      try clear c2
      try clear c2b0
      try clear c2b1
      try clear p2
      obtain ⟨x5_1, rfl, HA, HK1, HB⟩ := hrel
      cases gk with
      | zero => exact absurd HA.out (by simp [plnref1_Lines.l0])
      | succ k1 =>
        have H := HA.out
        clear HA
        simp only [plnref1_Lines.l0] at H
        by_cases c3 : x5_1 < (a0.size : Int)
        · rw [if_pos c3] at H
          have c3b0 : decide (x5_1 < (a0.size : Int)) = true := decide_eq_true c3
          clear c3
          by_cases c4 : 0 ≤ x5_1
          · rw [if_pos c4] at H
            have c4b0 : decide (0 ≤ x5_1) = true := decide_eq_true c4
            clear c4
            by_cases c6 : (bt a0 x5_1) = 9
            · rw [if_pos c6] at H
              have c6b0 : ((bt a0 x5_1) == 9) = true := beq_iff_eq.mpr c6
              have c6b1 : ((bt a0 x5_1) != 9) = false := bne_eq_false_iff_eq.mpr c6
              clear c6
              have H' := Aside0.mk H
              clear H
              have p5 : 0 ≤ (x5_1 : Int) := of_decide_eq_true (by first | (with_reducible assumption) | assumption)
              have q5 : x5_1 < (a0.size : Int) := of_decide_eq_true (by first | (with_reducible assumption) | assumption)
              have hx5 := bt_at a0 x5_1
              replace p5 := eq_true p5
              replace q5 := eq_true q5
              go_wp2
              go_roundg k1
              case measure => have := HK1.out; omega
              case rel => exact ⟨(wrap64 (x5_1 + 1)), (by first | rfl | (simp; done) | (simp [*]; done)), H', ⟨by have := HK1.out; omega⟩, ⟨by repeat (first | (with_reducible first | exact HB.out | apply below_alloc | apply pw_below_drewN | apply below_drew1) | exact HB.out)⟩⟩
            · rw [if_neg c6] at H
              have c6b0 : ((bt a0 x5_1) == 9) = false := beq_eq_false_iff_ne.mpr c6
              have c6b1 : ((bt a0 x5_1) != 9) = true := bne_iff_ne.mpr c6
              by_cases c7 : (bt a0 x5_1) = 10
              · rw [if_pos c7] at H
                have c7b0 : ((bt a0 x5_1) == 10) = true := beq_iff_eq.mpr c7
                have c7b1 : ((bt a0 x5_1) != 10) = false := bne_eq_false_iff_eq.mpr c7
                clear c7
                have H' := Aside0.mk H
                clear H
                have p5 : 0 ≤ (x5_1 : Int) := of_decide_eq_true (by first | (with_reducible assumption) | assumption)
                have q5 : x5_1 < (a0.size : Int) := of_decide_eq_true (by first | (with_reducible assumption) | assumption)
                have hx5 := bt_at a0 x5_1
                replace p5 := eq_true p5
                replace q5 := eq_true q5
                go_wp2
                go_roundg k1
                case measure => have := HK1.out; omega
                case rel => exact ⟨(wrap64 (x5_1 + 1)), (by first | rfl | (simp; done) | (simp [*]; done)), H', ⟨by have := HK1.out; omega⟩, ⟨by repeat (first | (with_reducible first | exact HB.out | apply below_alloc | apply pw_below_drewN | apply below_drew1) | exact HB.out)⟩⟩
              · rw [if_neg c7] at H
                have c7b0 : ((bt a0 x5_1) == 10) = false := beq_eq_false_iff_ne.mpr c7
                have c7b1 : ((bt a0 x5_1) != 10) = true := bne_iff_ne.mpr c7
                by_cases c8 : (bt a0 x5_1) < 32
                · rw [if_pos c8] at H
                  have c8b0 : decide ((bt a0 x5_1) < 32) = true := decide_eq_true c8
                  clear c8
                  simp only [Option.some.injEq, Prod.mk.injEq] at H
                  obtain ⟨rfl, rfl, rfl⟩ := H
                  have p5 : 0 ≤ (x5_1 : Int) := of_decide_eq_true (by first | (with_reducible assumption) | assumption)
                  have q5 : x5_1 < (a0.size : Int) := of_decide_eq_true (by first | (with_reducible assumption) | assumption)
                  have hx5 := bt_at a0 x5_1
                  replace p5 := eq_true p5
                  replace q5 := eq_true q5
                  go_wp2
                  go_ret3
                  exact ⟨_, by first | rfl | (simp [errW_none, errW_some] <;> rfl) | (simp [*, errW_none, errW_some] <;> rfl), by first | exact Kd.S_nil _ _ _ _ _ | exact Kd.N_nil _ _ _ _ _ | exact Kd.V_nil _ _ _ _ _ | exact Kd.Q_nil _ _ _ _ _ | exact Kd.R_nil _ _ _ _ _, by repeat (first | (with_reducible first | exact HB.out | apply below_alloc | apply pw_below_drewN | apply below_drew1) | exact HB.out)⟩
                · rw [if_neg c8] at H
                  have c8b0 : decide ((bt a0 x5_1) < 32) = false := decide_eq_false c8
                  clear c8
                  by_cases c9 : (bt a0 x5_1) > 126
                  · rw [if_pos c9] at H
                    have c9b0 : decide (126 < (bt a0 x5_1)) = true := decide_eq_true c9
                    clear c9
                    simp only [Option.some.injEq, Prod.mk.injEq] at H
                    obtain ⟨rfl, rfl, rfl⟩ := H
                    have p5 : 0 ≤ (x5_1 : Int) := of_decide_eq_true (by first | (with_reducible assumption) | assumption)
                    have q5 : x5_1 < (a0.size : Int) := of_decide_eq_true (by first | (with_reducible assumption) | assumption)
                    have hx5 := bt_at a0 x5_1
                    replace p5 := eq_true p5
                    replace q5 := eq_true q5
                    go_wp2
                    go_ret3
                    exact ⟨_, by first | rfl | (simp [errW_none, errW_some] <;> rfl) | (simp [*, errW_none, errW_some] <;> rfl), by first | exact Kd.S_nil _ _ _ _ _ | exact Kd.N_nil _ _ _ _ _ | exact Kd.V_nil _ _ _ _ _ | exact Kd.Q_nil _ _ _ _ _ | exact Kd.R_nil _ _ _ _ _, by repeat (first | (with_reducible first | exact HB.out | apply below_alloc | apply pw_below_drewN | apply below_drew1) | exact HB.out)⟩
                  · rw [if_neg c9] at H
                    have c9b0 : decide (126 < (bt a0 x5_1)) = false := decide_eq_false c9
                    clear c9
                    have H' := Aside0.mk H
                    clear H
                    have p5 : 0 ≤ (x5_1 : Int) := of_decide_eq_true (by first | (with_reducible assumption) | assumption)
                    have q5 : x5_1 < (a0.size : Int) := of_decide_eq_true (by first | (with_reducible assumption) | assumption)
                    have hx5 := bt_at a0 x5_1
                    replace p5 := eq_true p5
                    replace q5 := eq_true q5
                    go_wp2
                    go_roundg k1
                    case measure => have := HK1.out; omega
                    case rel => exact ⟨(wrap64 (x5_1 + 1)), (by first | rfl | (simp; done) | (simp [*]; done)), H', ⟨by have := HK1.out; omega⟩, ⟨by repeat (first | (with_reducible first | exact HB.out | apply below_alloc | apply pw_below_drewN | apply below_drew1) | exact HB.out)⟩⟩
          · rw [if_neg c4] at H
            exact absurd H (by simp)
        · rw [if_neg c3] at H
          have c3b0 : decide (x5_1 < (a0.size : Int)) = false := decide_eq_false c3
          clear c3
          have H' := Aside0.mk H
          clear H
          go_wp2
          go_loopg [7, 8, 9, 10, 11] k1 (fun kq v7 v8 v9 v10 v11 w' => ∃ (x7_2 : List (List (S36))) (x8_2 : List (S36)) (x9_2 : Int) (x10_2 : Bool) (x11_2 : Int), v9 = .int .i64 x9_2 ∧ v10 = .bool x10_2 ∧ v11 = .int .i64 x11_2 ∧ Aside0 (plnref1_Lines.l1 kq a0 x7_2 x8_2 x9_2 x10_2 x11_2 = some (r1, r2, r3)) ∧ Aside0 (kq ≤ k1) ∧ Aside0 (Kd.S (Kd.slice 36 k36) 33 w' w.heap.size (fun k_ => some k_ ≠ (v8 : Value).ownBlock) v7 x7_2) ∧ Aside0 (Kd.R k36 36 w' w.heap.size (fun _ => True) v8 x8_2) ∧ Aside0 (Below w.heap.size w w'))
          case atStart => exact ⟨(([] : List (List (S36)))), (([] : List (S36))), ((-1)), (false), (0), (by first | rfl | (simp; done) | (simp [*]; done)), (by first | rfl | (simp; done) | (simp [*]; done)), (by first | rfl | (simp; done) | (simp [*]; done)), H', ⟨Nat.le_refl _⟩, ⟨by first | exact Kd.S_nil _ _ _ _ _ | exact Kd.N_nil _ _ _ _ _ | exact Kd.V_nil _ _ _ _ _ | exact Kd.Q_nil _ _ _ _ _ | exact Kd.R_nil _ _ _ _ _⟩, ⟨by first | exact Kd.R_nil _ _ _ _ _ | exact Kd.N_nil _ _ _ _ _ | exact Kd.V_nil _ _ _ _ _ | exact Kd.Q_nil _ _ _ _ _ | exact Kd.S_nil _ _ _ _ _⟩, ⟨by repeat (first | (with_reducible first | exact HB.out | apply below_alloc | apply pw_below_drewN | apply below_drew1) | exact HB.out)⟩⟩
          case round =>
            clear H'
            try clear c1
            try clear c2
            try clear c2b0
            try clear c2b1
            try clear p2
            try clear c3
            try clear c3b0
            try clear c4
            try clear c4b0
            try clear p5
            try clear q5
            try clear hx5
            try clear c6
            try clear c6b0
            try clear c6b1
            try clear p6
            try clear c7
            try clear c7b0
            try clear c7b1
            try clear c8
            try clear c8b0
            try clear c9
            try clear c9b0
            try clear p2
            try clear p5
            try clear q5
            obtain ⟨x7_2, x8_2, x9_2, x10_2, x11_2, rfl, rfl, rfl, HA, HK2, HO_7, HO_8, HB⟩ := hrel
            cases gk with
            | zero => exact absurd HA.out (by simp [plnref1_Lines.l1])
            | succ k2 =>
              have H := HA.out
              clear HA
              simp only [plnref1_Lines.l1] at H
              by_cases c10 : x11_2 ≤ (a0.size : Int)
              · rw [if_pos c10] at H
                have c10b0 : decide (x11_2 ≤ (a0.size : Int)) = true := decide_eq_true c10
                clear c10
                have HC11 := Aside0.mk H
                clear H
                go_upto_region 15 with (fail)
                go_cut [12] (fun v12 wc => ∃ (kq : Nat) (x12_10 : Bool), v12 = .bool x12_10 ∧ Aside0 (plnref1_Lines.j2 kq a0 x7_2 x8_2 x9_2 x10_2 x11_2 x12_10 = some (r1, r2, r3)) ∧ Aside0 (kq ≤ k2) ∧ Aside0 (Kd.S (Kd.slice 36 k36) 33 wc w.heap.size (fun k_ => some k_ ≠ (u8 : Value).ownBlock) u7 x7_2) ∧ Aside0 (Kd.R k36 36 wc w.heap.size (fun _ => True) u8 x8_2) ∧ Aside0 (Below w.heap.size w wc))
                case first =>
                  have H := HC11.out
                  clear HC11
                  by_cases c12 : x11_2 = (a0.size : Int)
                  · rw [if_pos c12] at H
                    have c12b0 : (x11_2 == (a0.size : Int)) = true := beq_iff_eq.mpr c12
                    have c12b1 : (x11_2 != (a0.size : Int)) = false := bne_eq_false_iff_eq.mpr c12
                    clear c12
                    (first | rw [c12b0] | (simp only [i64_w, i32_w]; rw [c12b0]) | skip)
                    have H' := Aside0.mk H
                    clear H
                    go_wp2
                    go_meet
                    case rel => exact ⟨_, (true), (by first | rfl | (simp; done) | (simp [*]; done)), H', ⟨by have := HK1.out; have := HK2.out; first | omega | exact Nat.le_refl _⟩, ⟨by (with_reducible repeat (first | apply Kd.S_alloc | apply Kd.S_drewN | apply Kd.S_drew)); exact HO_7.out⟩, ⟨by (with_reducible repeat (first | apply Kd.R_alloc | apply Kd.R_drewN | apply Kd.R_drew)); exact HO_8.out⟩, ⟨by repeat (first | (with_reducible first | exact HB.out | apply below_alloc | apply pw_below_drewN | apply below_drew1) | exact HB.out)⟩⟩
                  · rw [if_neg c12] at H
                    have c12b0 : (x11_2 == (a0.size : Int)) = false := beq_eq_false_iff_ne.mpr c12
                    have c12b1 : (x11_2 != (a0.size : Int)) = true := bne_iff_ne.mpr c12
                    (first | rw [c12b0] | (simp only [i64_w, i32_w]; rw [c12b0]) | skip)
                    by_cases c13 : 0 ≤ x11_2
                    · rw [if_pos c13] at H
                      have c13b0 : decide (0 ≤ x11_2) = true := decide_eq_true c13
                      clear c13
                      by_cases c14 : x11_2 < (a0.size : Int)
                      · rw [if_pos c14] at H
                        have c14b0 : decide (x11_2 < (a0.size : Int)) = true := decide_eq_true c14
                        clear c14
                        have H' := Aside0.mk H
                        clear H
                        have p15 : 0 ≤ (x11_2 : Int) := of_decide_eq_true (by first | (with_reducible assumption) | assumption)
                        have q15 : x11_2 < (a0.size : Int) := of_decide_eq_true (by first | (with_reducible assumption) | assumption)
                        have hx15 := bt_at a0 x11_2
                        replace p15 := eq_true p15
                        replace q15 := eq_true q15
                        go_wp2
                        go_meet
                        case rel => exact ⟨_, (((bt a0 x11_2) == 10)), (by first | rfl | (simp; done) | (simp [*]; done)), H', ⟨by have := HK1.out; have := HK2.out; first | omega | exact Nat.le_refl _⟩, ⟨by (with_reducible repeat (first | apply Kd.S_alloc | apply Kd.S_drewN | apply Kd.S_drew)); exact HO_7.out⟩, ⟨by (with_reducible repeat (first | apply Kd.R_alloc | apply Kd.R_drewN | apply Kd.R_drew)); exact HO_8.out⟩, ⟨by repeat (first | (with_reducible first | exact HB.out | apply below_alloc | apply pw_below_drewN | apply below_drew1) | exact HB.out)⟩⟩
                      · rw [if_neg c14] at H
                        exact absurd H (by simp)
                    · rw [if_neg c13] at H
                      exact absurd H (by simp)
                case rest =>
                  clear HC11
                  try clear c1
                  try clear p1
                  try clear q1
                  try clear hx1
                  try clear c2
                  try clear c2b0
                  try clear c2b1
                  try clear p2
                  try clear c3
                  try clear c3b0
                  try clear c4
                  try clear c4b0
                  try clear p5
                  try clear q5
                  try clear hx5
                  try clear c6
                  try clear c6b0
                  try clear c6b1
                  try clear p6
                  try clear c7
                  try clear c7b0
                  try clear c7b1
                  try clear c8
                  try clear c8b0
                  try clear c9
                  try clear c9b0
                  try clear c10
                  try clear c10b0
                  try clear c11
                  try clear c12
                  try clear c12b0
                  try clear c12b1
                  try clear c13
                  try clear c13b0
                  try clear c14
                  try clear c14b0
                  try clear p15
                  try clear q15
                  try clear hx15
                  try clear p15
                  try clear p2
                  try clear p5
                  try clear p6
                  try clear q15
                  try clear q5
                  obtain ⟨kq, x12_10, rfl, HA, HJ10, HO_7, HO_8, HB⟩ := hcut
                  cases kq with
                  | zero => exact absurd HA.out (by simp [plnref1_Lines.j2])
                  | succ kj10 =>
                    have H := HA.out
                    clear HA
                    simp only [plnref1_Lines.j2] at H
                    have HC16 := Aside0.mk H
                    clear H
                    go_upto_region 16 with (fail)
                    go_cut [78] (fun v78 wc => ∃ (kq : Nat) (x78_15 : Bool), v78 = .bool x78_15 ∧ Aside0 (plnref1_Lines.j3 kq a0 x7_2 x8_2 x9_2 x10_2 x11_2 x12_10 x78_15 = some (r1, r2, r3)) ∧ Aside0 (kq ≤ kj10) ∧ Aside0 (Kd.S (Kd.slice 36 k36) 33 wc w.heap.size (fun k_ => some k_ ≠ (u8 : Value).ownBlock) u7 x7_2) ∧ Aside0 (Kd.R k36 36 wc w.heap.size (fun _ => True) u8 x8_2) ∧ Aside0 (Below w.heap.size w wc))
                    case first =>
                      have H := HC16.out
                      clear HC16
                      by_cases c17 : x9_2 ≥ 0
                      · rw [if_pos c17] at H
                        have c17b0 : decide (0 ≤ x9_2) = true := decide_eq_true c17
                        clear c17
                        (first | rw [c17b0] | (simp only [i64_w, i32_w]; rw [c17b0]) | skip)
                        by_cases c18 : x12_10 = true
                        · subst c18
                          have H1 : (plnref1_Lines.j3 kj10 a0 x7_2 x8_2 x9_2 x10_2 x11_2 true true) = some (r1, r2, r3) := by rw [if_pos rfl] at H; exact H
                          clear H
                          have H := H1
                          clear H1
                          have H' := Aside0.mk H
                          clear H
                          go_wp2
                          go_meet
                          case rel => exact ⟨_, (true), (by first | rfl | (simp; done) | (simp [*]; done)), H', ⟨by have := HK1.out; have := HK2.out; have := HJ10.out; first | omega | exact Nat.le_refl _⟩, ⟨by (with_reducible repeat (first | apply Kd.S_alloc | apply Kd.S_drewN | apply Kd.S_drew)); exact HO_7.out⟩, ⟨by (with_reducible repeat (first | apply Kd.R_alloc | apply Kd.R_drewN | apply Kd.R_drew)); exact HO_8.out⟩, ⟨by repeat (first | (with_reducible first | exact HB.out | apply below_alloc | apply pw_below_drewN | apply below_drew1) | exact HB.out)⟩⟩
                        · replace c18 := Bool.eq_false_iff.mpr c18
                          subst c18
                          have H1 : (if 0 ≤ x11_2 then (if x11_2 < (a0.size : Int) then (if (bt a0 x11_2) = 9 then (plnref1_Lines.j3 kj10 a0 x7_2 x8_2 x9_2 x10_2 x11_2 false true) else (if (bt a0 x11_2) = 32 then (plnref1_Lines.j3 kj10 a0 x7_2 x8_2 x9_2 x10_2 x11_2 false true) else (plnref1_Lines.j3 kj10 a0 x7_2 x8_2 x9_2 x10_2 x11_2 false ((bt a0 x11_2) == 35)))) else (none)) else (none)) = some (r1, r2, r3) := by rw [if_neg (show ¬ (false = true) by decide)] at H; exact H
                          clear H
                          have H := H1
                          clear H1
                          by_cases c19 : 0 ≤ x11_2
                          · rw [if_pos c19] at H
                            have c19b0 : decide (0 ≤ x11_2) = true := decide_eq_true c19
                            clear c19
                            by_cases c20 : x11_2 < (a0.size : Int)
                            · rw [if_pos c20] at H
                              have c20b0 : decide (x11_2 < (a0.size : Int)) = true := decide_eq_true c20
                              clear c20
                              by_cases c22 : (bt a0 x11_2) = 9
                              · rw [if_pos c22] at H
                                have c22b0 : ((bt a0 x11_2) == 9) = true := beq_iff_eq.mpr c22
                                have c22b1 : ((bt a0 x11_2) != 9) = false := bne_eq_false_iff_eq.mpr c22
                                clear c22
                                have H' := Aside0.mk H
                                clear H
                                have p21 : 0 ≤ (x11_2 : Int) := of_decide_eq_true (by first | (with_reducible assumption) | assumption)
                                have q21 : x11_2 < (a0.size : Int) := of_decide_eq_true (by first | (with_reducible assumption) | assumption)
                                have hx21 := bt_at a0 x11_2
                                replace p21 := eq_true p21
                                replace q21 := eq_true q21
                                go_wp2
                                go_meet
                                case rel => exact ⟨_, (true), (by first | rfl | (simp; done) | (simp [*]; done)), H', ⟨by have := HK1.out; have := HK2.out; have := HJ10.out; first | omega | exact Nat.le_refl _⟩, ⟨by (with_reducible repeat (first | apply Kd.S_alloc | apply Kd.S_drewN | apply Kd.S_drew)); exact HO_7.out⟩, ⟨by (with_reducible repeat (first | apply Kd.R_alloc | apply Kd.R_drewN | apply Kd.R_drew)); exact HO_8.out⟩, ⟨by repeat (first | (with_reducible first | exact HB.out | apply below_alloc | apply pw_below_drewN | apply below_drew1) | exact HB.out)⟩⟩
                              · rw [if_neg c22] at H
                                have c22b0 : ((bt a0 x11_2) == 9) = false := beq_eq_false_iff_ne.mpr c22
                                have c22b1 : ((bt a0 x11_2) != 9) = true := bne_iff_ne.mpr c22
                                by_cases c24 : (bt a0 x11_2) = 32
                                · rw [if_pos c24] at H
                                  have c24b0 : ((bt a0 x11_2) == 32) = true := beq_iff_eq.mpr c24
                                  have c24b1 : ((bt a0 x11_2) != 32) = false := bne_eq_false_iff_eq.mpr c24
                                  clear c24
                                  have H' := Aside0.mk H
                                  clear H
                                  have p21 : 0 ≤ (x11_2 : Int) := of_decide_eq_true (by first | (with_reducible assumption) | assumption)
                                  have q21 : x11_2 < (a0.size : Int) := of_decide_eq_true (by first | (with_reducible assumption) | assumption)
                                  have hx21 := bt_at a0 x11_2
                                  replace p21 := eq_true p21
                                  replace q21 := eq_true q21
                                  have p23 : 0 ≤ (x11_2 : Int) := of_decide_eq_true (by first | (with_reducible assumption) | assumption)
                                  have q23 : x11_2 < (a0.size : Int) := of_decide_eq_true (by first | (with_reducible assumption) | assumption)
                                  have hx23 := bt_at a0 x11_2
                                  replace p23 := eq_true p23
                                  replace q23 := eq_true q23
                                  go_wp2
                                  go_meet
                                  case rel => exact ⟨_, (true), (by first | rfl | (simp; done) | (simp [*]; done)), H', ⟨by have := HK1.out; have := HK2.out; have := HJ10.out; first | omega | exact Nat.le_refl _⟩, ⟨by (with_reducible repeat (first | apply Kd.S_alloc | apply Kd.S_drewN | apply Kd.S_drew)); exact HO_7.out⟩, ⟨by (with_reducible repeat (first | apply Kd.R_alloc | apply Kd.R_drewN | apply Kd.R_drew)); exact HO_8.out⟩, ⟨by repeat (first | (with_reducible first | exact HB.out | apply below_alloc | apply pw_below_drewN | apply below_drew1) | exact HB.out)⟩⟩
                                · rw [if_neg c24] at H
                                  have c24b0 : ((bt a0 x11_2) == 32) = false := beq_eq_false_iff_ne.mpr c24
                                  have c24b1 : ((bt a0 x11_2) != 32) = true := bne_iff_ne.mpr c24
                                  have H' := Aside0.mk H
                                  clear H
                                  have p21 : 0 ≤ (x11_2 : Int) := of_decide_eq_true (by first | (with_reducible assumption) | assumption)
                                  have q21 : x11_2 < (a0.size : Int) := of_decide_eq_true (by first | (with_reducible assumption) | assumption)
                                  have hx21 := bt_at a0 x11_2
                                  replace p21 := eq_true p21
                                  replace q21 := eq_true q21
                                  have p23 : 0 ≤ (x11_2 : Int) := of_decide_eq_true (by first | (with_reducible assumption) | assumption)
                                  have q23 : x11_2 < (a0.size : Int) := of_decide_eq_true (by first | (with_reducible assumption) | assumption)
                                  have hx23 := bt_at a0 x11_2
                                  replace p23 := eq_true p23
                                  replace q23 := eq_true q23
                                  have p25 : 0 ≤ (x11_2 : Int) := of_decide_eq_true (by first | (with_reducible assumption) | assumption)
                                  have q25 : x11_2 < (a0.size : Int) := of_decide_eq_true (by first | (with_reducible assumption) | assumption)
                                  have hx25 := bt_at a0 x11_2
                                  replace p25 := eq_true p25
                                  replace q25 := eq_true q25
                                  go_wp2
                                  go_meet
                                  case rel => exact ⟨_, (((bt a0 x11_2) == 35)), (by first | rfl | (simp; done) | (simp [*]; done)), H', ⟨by have := HK1.out; have := HK2.out; have := HJ10.out; first | omega | exact Nat.le_refl _⟩, ⟨by (with_reducible repeat (first | apply Kd.S_alloc | apply Kd.S_drewN | apply Kd.S_drew)); exact HO_7.out⟩, ⟨by (with_reducible repeat (first | apply Kd.R_alloc | apply Kd.R_drewN | apply Kd.R_drew)); exact HO_8.out⟩, ⟨by repeat (first | (with_reducible first | exact HB.out | apply below_alloc | apply pw_below_drewN | apply below_drew1) | exact HB.out)⟩⟩
                            · rw [if_neg c20] at H
                              exact absurd H (by simp)
                          · rw [if_neg c19] at H
                            exact absurd H (by simp)
                      · rw [if_neg c17] at H
                        have c17b0 : decide (0 ≤ x9_2) = false := decide_eq_false c17
                        clear c17
                        (first | rw [c17b0] | (simp only [i64_w, i32_w]; rw [c17b0]) | skip)
                        have H' := Aside0.mk H
                        clear H
                        go_wp2
                        go_meet
                        case rel => exact ⟨_, (false), (by first | rfl | (simp; done) | (simp [*]; done)), H', ⟨by have := HK1.out; have := HK2.out; have := HJ10.out; first | omega | exact Nat.le_refl _⟩, ⟨by (with_reducible repeat (first | apply Kd.S_alloc | apply Kd.S_drewN | apply Kd.S_drew)); exact HO_7.out⟩, ⟨by (with_reducible repeat (first | apply Kd.R_alloc | apply Kd.R_drewN | apply Kd.R_drew)); exact HO_8.out⟩, ⟨by repeat (first | (with_reducible first | exact HB.out | apply below_alloc | apply pw_below_drewN | apply below_drew1) | exact HB.out)⟩⟩
                    case rest =>
                      clear HC16
                      try clear c1
                      try clear p1
                      try clear q1
                      try clear hx1
                      try clear c2
                      try clear c2b0
                      try clear c2b1
                      try clear p2
                      try clear q2
                      try clear hx2
                      try clear c3
                      try clear c3b0
                      try clear c4
                      try clear c4b0
                      try clear p5
                      try clear q5
                      try clear hx5
                      try clear c6
                      try clear c6b0
                      try clear c6b1
                      try clear p6
                      try clear c7
                      try clear c7b0
                      try clear c7b1
                      try clear c8
                      try clear c8b0
                      try clear c9
                      try clear c9b0
                      try clear c10
                      try clear c10b0
                      try clear c11
                      try clear c12
                      try clear c12b0
                      try clear c12b1
                      try clear c13
                      try clear c13b0
                      try clear c14
                      try clear c14b0
                      try clear p15
                      try clear q15
                      try clear hx15
                      try clear c17
                      try clear c17b0
                      try clear c18
                      try clear c19
                      try clear c19b0
                      try clear c20
                      try clear c20b0
                      try clear p21
                      try clear q21
                      try clear hx21
                      try clear c22
                      try clear c22b0
                      try clear c22b1
                      try clear p23
                      try clear q23
                      try clear hx23
                      try clear c24
                      try clear c24b0
                      try clear c24b1
                      try clear p25
                      try clear q25
                      try clear hx25
                      try clear p1
                      try clear p15
                      try clear p2
                      try clear p21
                      try clear p23
                      try clear p25
                      try clear p5
                      try clear p6
                      try clear q1
                      try clear q15
                      try clear q21
                      try clear q23
                      try clear q25
                      try clear q5
                      obtain ⟨kq, x78_15, rfl, HA, HJ15, HO_7, HO_8, HB⟩ := hcut
                      cases kq with
                      | zero => exact absurd HA.out (by simp [plnref1_Lines.j3])
                      | succ kj15 =>
                        have H := HA.out
                        clear HA
                        simp only [plnref1_Lines.j3] at H
                        have HC26 := Aside0.mk H
                        clear H
                        go_upto_if 78 with (fail)
                        go_cut [8, 9] (fun v8 v9 wc => ∃ (kq : Nat) (x8_25 : List (S36)) (x9_25 : Int), v9 = .int .i64 x9_25 ∧ Aside0 (plnref1_Lines.j4 kq a0 x7_2 x8_25 x9_25 x10_2 x11_2 x12_10 = some (r1, r2, r3)) ∧ Aside0 (kq ≤ kj15) ∧ Aside0 (Kd.S (Kd.slice 36 k36) 33 wc w.heap.size (fun k_ => some k_ ≠ (v8 : Value).ownBlock) u7 x7_2) ∧ Aside0 (Kd.R k36 36 wc w.heap.size (fun _ => True) v8 x8_25) ∧ Aside0 (Below w.heap.size w wc))
                        case first =>
                          have H := HC26.out
                          clear HC26
                          by_cases c27 : x78_15 = true
                          · subst c27
                            have H1 : (if 0 ≤ x9_2 then (if x9_2 ≤ x11_2 then (if x11_2 ≤ (a0.size : Int) then (if x8_2.length < 5864062014805 then (plnref1_Lines.j4 kj15 a0 x7_2 (x8_2 ++ [(⟨a0.extract (x9_2 : Int).toNat (x11_2 : Int).toNat, x9_2⟩ : S36)]) (-1) x10_2 x11_2 x12_10) else (none)) else (none)) else (none)) else (none)) = some (r1, r2, r3) := by rw [if_pos rfl] at H; exact H
                            clear H
                            have H := H1
                            clear H1
                            by_cases c28 : 0 ≤ x9_2
                            · rw [if_pos c28] at H
                              have c28b0 := eq_true c28
                              have c28b1 : decide (0 ≤ x9_2) = true := decide_eq_true c28
                              clear c28
                              by_cases c29 : x9_2 ≤ x11_2
                              · rw [if_pos c29] at H
                                have c29b0 := eq_true c29
                                have c29b1 : decide (x9_2 ≤ x11_2) = true := decide_eq_true c29
                                clear c29
                                by_cases c30 : x11_2 ≤ (a0.size : Int)
                                · rw [if_pos c30] at H
                                  have c30b0 := eq_true c30
                                  have c30b1 : decide (x11_2 ≤ (a0.size : Int)) = true := decide_eq_true c30
                                  clear c30
                                  by_cases c31 : x8_2.length < 5864062014805
                                  · rw [if_pos c31] at H
                                    have LMc31 := Aside0.mk c31
                                    clear c31
                                    obtain ⟨y134, hy134⟩ : ∃ y_ : List (S36), y_ = (x8_2 ++ [(⟨a0.extract (x9_2 : Int).toNat (x11_2 : Int).toNat, x9_2⟩ : S36)]) := ⟨_, rfl⟩
                                    replace H : (plnref1_Lines.j4 kj15 a0 x7_2 y134 (-1) x10_2 x11_2 x12_10) = some (r1, r2, r3) := by first | (rw [hy134]; with_reducible exact H) | (have H2_ := (Option.bind_some _ _).symm.trans H; rw [hy134]; with_reducible exact H2_) | (have H2_ := (Option.bind_some _ _).symm.trans H; with_reducible exact H2_) | with_reducible exact H | (rw [hy134]; exact H) | exact H
                                    have Ny134 := Aside0.mk hy134
                                    clear hy134
                                    have H' := Aside0.mk H
                                    clear H
                                    go_wp2_with (first | ((with_reducible refine gate_builtin (b := .append) (xs := #[.tmp 79, .tmp 86]) rfl ?_); at_builtin; refine Kd.R_append k36 (w0 := w) w.heap.size rfl (.tmp 79) (.tmp 86) 33 36 (.agg #[(.string ⟨#[]⟩), (.int .i64 0)]) 24 rfl Tryd.underlying33 info36 rfl (by decide) (by omega) u8 x8_2 (⟨a0.extract (x9_2 : Int).toNat (x11_2 : Int).toNat, x9_2⟩ : S36) [.string (a0.extract (x9_2 : Int).toNat (x11_2 : Int).toNat), .int .i64 x9_2] (fun _ => True) (fun _ => False) rfl rfl ?aP (fun _ hk => hk.elim) ?aF ?aO ?aB ?aS ?aL ?_; (case aP => exact k36_mkM _ _ _ (⟨a0.extract (x9_2 : Int).toNat (x11_2 : Int).toNat, x9_2⟩ : S36)); (case aB => exact (by repeat (first | (with_reducible first | exact HB.out | apply below_alloc | apply pw_below_drewN | apply below_drew1) | exact HB.out))); (case aF => exact (fun _ _ => trivial)); (case aO => exact (by (with_reducible repeat (first | apply Kd.R_alloc | apply Kd.R_drewN | apply Kd.R_drew)); exact HO_8.out)); (case aS => exact (below_size (by repeat (first | (with_reducible first | exact HB.out | apply below_alloc | apply pw_below_drewN | apply below_drew1) | exact HB.out)))); (case aL => have := LMc31.out; omega); intro v135 w32 ho hb hg hat; rw [← Ny134.out] at ho; have n0_ := Aside0.mk (Kd.S_after (ok := (fun _ => True)) (by (with_reducible repeat (first | apply Kd.S_alloc | apply Kd.S_drewN | apply Kd.S_drew)); exact Kd.S_mono HO_7.out (fun _ hk => ⟨trivial, hk⟩)) hg hat); have n1_ := Aside0.mk (hb); have n2_ := Aside0.mk (ho); clear HO_7; clear HB; clear HO_8; have HO_7 := n0_; have HB := n1_; have HO136 := n2_; clear n0_ n1_ n2_; clear ho hb hg hat))
                                    go_meet
                                    case rel => exact ⟨_, (y134), ((-1)), (by first | rfl | (simp; done) | (simp [*]; done)), H', ⟨by have := HK1.out; have := HK2.out; have := HJ10.out; have := HJ15.out; first | omega | exact Nat.le_refl _⟩, ⟨by (with_reducible repeat (first | apply Kd.S_alloc | apply Kd.S_drewN | apply Kd.S_drew)); exact Kd.S_mono HO_7.out (fun _ hk => hk.2)⟩, ⟨by (with_reducible repeat (first | apply Kd.R_alloc | apply Kd.R_drewN | apply Kd.R_drew)); exact HO136.out⟩, ⟨by repeat (first | (with_reducible first | exact HB.out | apply below_alloc | apply pw_below_drewN | apply below_drew1) | exact HB.out)⟩⟩
                                  · rw [if_neg c31] at H
                                    exact absurd H (by simp)
                                · rw [if_neg c30] at H
                                  exact absurd H (by simp)
                              · rw [if_neg c29] at H
                                exact absurd H (by simp)
                            · rw [if_neg c28] at H
                              exact absurd H (by simp)
                          · replace c27 := Bool.eq_false_iff.mpr c27
                            subst c27
                            have H1 : (plnref1_Lines.j4 kj15 a0 x7_2 x8_2 x9_2 x10_2 x11_2 x12_10) = some (r1, r2, r3) := by rw [if_neg (show ¬ (false = true) by decide)] at H; exact H
                            clear H
                            have H := H1
                            clear H1
                            have H' := Aside0.mk H
                            clear H
                            go_wp2
                            go_meet
                            case rel => exact ⟨_, (x8_2), (x9_2), (by first | rfl | (simp; done) | (simp [*]; done)), H', ⟨by have := HK1.out; have := HK2.out; have := HJ10.out; have := HJ15.out; first | omega | exact Nat.le_refl _⟩, ⟨by (with_reducible repeat (first | apply Kd.S_alloc | apply Kd.S_drewN | apply Kd.S_drew)); exact HO_7.out⟩, ⟨by (with_reducible repeat (first | apply Kd.R_alloc | apply Kd.R_drewN | apply Kd.R_drew)); exact HO_8.out⟩, ⟨by repeat (first | (with_reducible first | exact HB.out | apply below_alloc | apply pw_below_drewN | apply below_drew1) | exact HB.out)⟩⟩
                        case rest =>
                          clear HC26
                          try clear c1
                          try clear p1
                          try clear q1
                          try clear hx1
                          try clear c2
                          try clear c2b0
                          try clear c2b1
                          try clear p2
                          try clear q2
                          try clear hx2
                          try clear c3
                          try clear c3b0
                          try clear c4
                          try clear c4b0
                          try clear p5
                          try clear q5
                          try clear hx5
                          try clear c6
                          try clear c6b0
                          try clear c6b1
                          try clear p6
                          try clear c7
                          try clear c7b0
                          try clear c7b1
                          try clear c8
                          try clear c8b0
                          try clear c9
                          try clear c9b0
                          try clear c10
                          try clear c10b0
                          try clear c11
                          try clear c12
                          try clear c12b0
                          try clear c12b1
                          try clear c13
                          try clear c13b0
                          try clear c14
                          try clear c14b0
                          try clear p15
                          try clear q15
                          try clear hx15
                          try clear c17
                          try clear c17b0
                          try clear c18
                          try clear c19
                          try clear c19b0
                          try clear c20
                          try clear c20b0
                          try clear p21
                          try clear q21
                          try clear hx21
                          try clear c22
                          try clear c22b0
                          try clear c22b1
                          try clear p23
                          try clear q23
                          try clear hx23
                          try clear c24
                          try clear c24b0
                          try clear c24b1
                          try clear p25
                          try clear q25
                          try clear hx25
                          try clear c27
                          try clear c28
                          try clear c28b0
                          try clear c28b1
                          try clear c29
                          try clear c29b0
                          try clear c29b1
                          try clear c30
                          try clear c30b0
                          try clear c30b1
                          try clear c31
                          try clear p1
                          try clear p15
                          try clear p2
                          try clear p21
                          try clear p23
                          try clear p25
                          try clear p5
                          try clear p6
                          try clear q1
                          try clear q15
                          try clear q2
                          try clear q21
                          try clear q23
                          try clear q25
                          try clear q5
                          obtain ⟨kq, x8_25, x9_25, rfl, HA, HJ25, HO_7, HO_8, HB⟩ := hcut
                          cases kq with
                          | zero => exact absurd HA.out (by simp [plnref1_Lines.j4])
                          | succ kj25 =>
                            have H := HA.out
                            clear HA
                            simp only [plnref1_Lines.j4] at H
                            by_cases c33 : x12_10 = true
                            · subst c33
                              have H1 : (if (x8_25.length : Int) > 0 then (if x7_2.length < 5864062014805 then (plnref1_Lines.l1 kj25 a0 (x7_2 ++ [x8_25]) ([] : List (S36)) x9_25 false (wrap64 (x11_2 + 1))) else (none)) else (plnref1_Lines.l1 kj25 a0 x7_2 ([] : List (S36)) x9_25 false (wrap64 (x11_2 + 1)))) = some (r1, r2, r3) := by rw [if_pos rfl] at H; exact H
                              clear H
                              have H := H1
                              clear H1
                              by_cases c34 : (x8_25.length : Int) > 0
                              · rw [if_pos c34] at H
                                have c34b0 : decide (0 < (x8_25.length : Int)) = true := decide_eq_true c34
                                have c34b1 : decide (0 < x8_25.length) = true := decide_eq_true (by omega)
                                clear c34
                                by_cases c35 : x7_2.length < 5864062014805
                                · rw [if_pos c35] at H
                                  have LMc35 := Aside0.mk c35
                                  clear c35
                                  obtain ⟨y137, hy137⟩ : ∃ y_ : List (List (S36)), y_ = (x7_2 ++ [x8_25]) := ⟨_, rfl⟩
                                  replace H : (plnref1_Lines.l1 kj25 a0 y137 ([] : List (S36)) x9_25 false (wrap64 (x11_2 + 1))) = some (r1, r2, r3) := by first | (rw [hy137]; with_reducible exact H) | (have H2_ := (Option.bind_some _ _).symm.trans H; rw [hy137]; with_reducible exact H2_) | (have H2_ := (Option.bind_some _ _).symm.trans H; with_reducible exact H2_) | with_reducible exact H | (rw [hy137]; exact H) | exact H
                                  have Ny137 := Aside0.mk hy137
                                  clear hy137
                                  have H' := Aside0.mk H
                                  clear H
                                  obtain ⟨Ao36, co36, eo36⟩ := Kd.R_slice HO_8.out
                                  subst eo36
                                  go_wp2_with (first | ((with_reducible refine gate_builtin (b := .append) (xs := #[.tmp 92, .tmp 94]) rfl ?_); at_builtin; refine Kd.S_append (Kd.slice 36 k36) (w0 := w) w.heap.size rfl (.tmp 92) (.tmp 94) 27 33 (.slice none 0 0) 24 rfl Tryd.underlying27 info33 rfl (by decide) (by omega) u7 x7_2 x8_25 [.slice Ao36 x8_25.length co36] (fun _ => True) (fun k_ => some k_ = (.slice Ao36 x8_25.length co36 : Value).ownBlock) rfl rfl ?aP (fun k_ hk_ => ((Kd.R_mono (ok' := fun k_ => ((fun _ => True)) k_ ∧ some k_ ≠ (u7 : Value).ownBlock) (Kd.R_apart' (HO_8.out) (Kd.S_typed HO_7.out) (by decide)) (fun k_ hk => ⟨trivial, hk.2⟩))).1 k_ hk_.symm) ?aF ?aO ?aB ?aS ?aL ?_; (case aP => exact Kd.M_row (Kd.R_mono (Kd.R_tight rfl (Kd.R_mono (ok' := fun k_ => ((fun _ => True)) k_ ∧ some k_ ≠ (u7 : Value).ownBlock) (Kd.R_apart' (HO_8.out) (Kd.S_typed HO_7.out) (by decide)) (fun k_ hk => ⟨trivial, hk.2⟩))) (fun _ h_ => h_))); (case aB => exact (by repeat (first | (with_reducible first | exact HB.out | apply below_alloc | apply pw_below_drewN | apply below_drew1) | exact HB.out))); (case aF => exact (fun _ _ => trivial)); (case aO => exact (by (with_reducible repeat (first | apply Kd.S_alloc | apply Kd.S_drewN | apply Kd.S_drew)); exact Kd.S_mono HO_7.out (fun k_ hk => ⟨trivial, fun e_ => hk e_⟩))); (case aS => exact (below_size (by repeat (first | (with_reducible first | exact HB.out | apply below_alloc | apply pw_below_drewN | apply below_drew1) | exact HB.out)))); (case aL => have := LMc35.out; omega); intro v138 w37 ho hb hg hat; rw [← Ny137.out] at ho; have n0_ := Aside0.mk (hb); have n1_ := Aside0.mk (ho); clear HB; clear HO_7; clear HO_8; have HB := n0_; have HO139 := n1_; clear n0_ n1_; clear ho hb hg hat))
                                  go_roundg kj25
                                  case measure => have := HK1.out; have := HK2.out; have := HJ10.out; have := HJ15.out; have := HJ25.out; omega
                                  case rel => exact ⟨(y137), (([] : List (S36))), (x9_25), (false), (wrap64 (x11_2 + 1)), (by first | rfl | (simp; done) | (simp [*]; done)), (by first | rfl | (simp; done) | (simp [*]; done)), (by first | rfl | (simp; done) | (simp [*]; done)), H', ⟨by have := HK1.out; have := HK2.out; have := HJ10.out; have := HJ15.out; have := HJ25.out; omega⟩, ⟨by (with_reducible repeat (first | apply Kd.S_alloc | apply Kd.S_drewN | apply Kd.S_drew)); exact Kd.S_mono HO139.out (fun _ hk => (by simp [Value.ownBlock]))⟩, ⟨by first | exact Kd.R_nil _ _ _ _ _ | exact Kd.N_nil _ _ _ _ _ | exact Kd.V_nil _ _ _ _ _ | exact Kd.Q_nil _ _ _ _ _ | exact Kd.S_nil _ _ _ _ _⟩, ⟨by repeat (first | (with_reducible first | exact HB.out | apply below_alloc | apply pw_below_drewN | apply below_drew1) | exact HB.out)⟩⟩
                                · rw [if_neg c35] at H
                                  exact absurd H (by simp)
                              · rw [if_neg c34] at H
                                have c34b0 : decide (0 < (x8_25.length : Int)) = false := decide_eq_false c34
                                have c34b1 : decide (0 < x8_25.length) = false := decide_eq_false (by omega)
                                clear c34
                                have H' := Aside0.mk H
                                clear H
                                obtain ⟨Ao38, co38, eo38⟩ := Kd.R_slice HO_8.out
                                subst eo38
                                go_wp2
                                go_roundg kj25
                                case measure => have := HK1.out; have := HK2.out; have := HJ10.out; have := HJ15.out; have := HJ25.out; omega
                                case rel => exact ⟨(x7_2), (([] : List (S36))), (x9_25), (false), (wrap64 (x11_2 + 1)), (by first | rfl | (simp; done) | (simp [*]; done)), (by first | rfl | (simp; done) | (simp [*]; done)), (by first | rfl | (simp; done) | (simp [*]; done)), H', ⟨by have := HK1.out; have := HK2.out; have := HJ10.out; have := HJ15.out; have := HJ25.out; omega⟩, ⟨by (with_reducible repeat (first | apply Kd.S_alloc | apply Kd.S_drewN | apply Kd.S_drew)); exact Kd.S_mono HO_7.out (fun _ hk => (by simp [Value.ownBlock]))⟩, ⟨by first | exact Kd.R_nil _ _ _ _ _ | exact Kd.N_nil _ _ _ _ _ | exact Kd.V_nil _ _ _ _ _ | exact Kd.Q_nil _ _ _ _ _ | exact Kd.S_nil _ _ _ _ _⟩, ⟨by repeat (first | (with_reducible first | exact HB.out | apply below_alloc | apply pw_below_drewN | apply below_drew1) | exact HB.out)⟩⟩
                            · replace c33 := Bool.eq_false_iff.mpr c33
                              subst c33
                              have H1 : (if x10_2 = true then (plnref1_Lines.l1 kj25 a0 x7_2 x8_25 x9_25 true (wrap64 (x11_2 + 1))) else (if 0 ≤ x11_2 then (if x11_2 < (a0.size : Int) then (if ((bt a0 x11_2) = 35) then (plnref1_Lines.l1 kj25 a0 x7_2 x8_25 x9_25 ((bt a0 x11_2) == 35) (wrap64 (x11_2 + 1))) else (if x9_25 < 0 then (if (bt a0 x11_2) = 9 then (plnref1_Lines.l1 kj25 a0 x7_2 x8_25 x9_25 ((bt a0 x11_2) == 35) (wrap64 (x11_2 + 1))) else (if (bt a0 x11_2) = 32 then (plnref1_Lines.l1 kj25 a0 x7_2 x8_25 x9_25 ((bt a0 x11_2) == 35) (wrap64 (x11_2 + 1))) else (plnref1_Lines.l1 kj25 a0 x7_2 x8_25 x11_2 ((bt a0 x11_2) == 35) (wrap64 (x11_2 + 1))))) else (plnref1_Lines.l1 kj25 a0 x7_2 x8_25 x9_25 ((bt a0 x11_2) == 35) (wrap64 (x11_2 + 1))))) else (none)) else (none))) = some (r1, r2, r3) := by rw [if_neg (show ¬ (false = true) by decide)] at H; exact H
                              clear H
                              have H := H1
                              clear H1
                              by_cases c39 : x10_2 = true
                              · subst c39
                                have H1 : (plnref1_Lines.l1 kj25 a0 x7_2 x8_25 x9_25 true (wrap64 (x11_2 + 1))) = some (r1, r2, r3) := by rw [if_pos rfl] at H; exact H
                                clear H
                                have H := H1
                                clear H1
                                have H' := Aside0.mk H
                                clear H
                                go_wp2
                                go_roundg kj25
                                case measure => have := HK1.out; have := HK2.out; have := HJ10.out; have := HJ15.out; have := HJ25.out; omega
                                case rel => exact ⟨(x7_2), (x8_25), (x9_25), (true), (wrap64 (x11_2 + 1)), (by first | rfl | (simp; done) | (simp [*]; done)), (by first | rfl | (simp; done) | (simp [*]; done)), (by first | rfl | (simp; done) | (simp [*]; done)), H', ⟨by have := HK1.out; have := HK2.out; have := HJ10.out; have := HJ15.out; have := HJ25.out; omega⟩, ⟨by (with_reducible repeat (first | apply Kd.S_alloc | apply Kd.S_drewN | apply Kd.S_drew)); exact HO_7.out⟩, ⟨by (with_reducible repeat (first | apply Kd.R_alloc | apply Kd.R_drewN | apply Kd.R_drew)); exact HO_8.out⟩, ⟨by repeat (first | (with_reducible first | exact HB.out | apply below_alloc | apply pw_below_drewN | apply below_drew1) | exact HB.out)⟩⟩
                              · replace c39 := Bool.eq_false_iff.mpr c39
                                subst c39
                                have H1 : (if 0 ≤ x11_2 then (if x11_2 < (a0.size : Int) then (if ((bt a0 x11_2) = 35) then (plnref1_Lines.l1 kj25 a0 x7_2 x8_25 x9_25 ((bt a0 x11_2) == 35) (wrap64 (x11_2 + 1))) else (if x9_25 < 0 then (if (bt a0 x11_2) = 9 then (plnref1_Lines.l1 kj25 a0 x7_2 x8_25 x9_25 ((bt a0 x11_2) == 35) (wrap64 (x11_2 + 1))) else (if (bt a0 x11_2) = 32 then (plnref1_Lines.l1 kj25 a0 x7_2 x8_25 x9_25 ((bt a0 x11_2) == 35) (wrap64 (x11_2 + 1))) else (plnref1_Lines.l1 kj25 a0 x7_2 x8_25 x11_2 ((bt a0 x11_2) == 35) (wrap64 (x11_2 + 1))))) else (plnref1_Lines.l1 kj25 a0 x7_2 x8_25 x9_25 ((bt a0 x11_2) == 35) (wrap64 (x11_2 + 1))))) else (none)) else (none)) = some (r1, r2, r3) := by rw [if_neg (show ¬ (false = true) by decide)] at H; exact H
                                clear H
                                have H := H1
                                clear H1
                                by_cases c40 : 0 ≤ x11_2
                                · rw [if_pos c40] at H
                                  have c40b0 : decide (0 ≤ x11_2) = true := decide_eq_true c40
                                  clear c40
                                  by_cases c41 : x11_2 < (a0.size : Int)
                                  · rw [if_pos c41] at H
                                    have c41b0 : decide (x11_2 < (a0.size : Int)) = true := decide_eq_true c41
                                    clear c41
                                    by_cases c43 : ((bt a0 x11_2) = 35)
                                    · rw [if_pos c43] at H
                                      have c43b0 : ((bt a0 x11_2) == 35) = true := beq_iff_eq.mpr c43
                                      have c43b1 : ((bt a0 x11_2) != 35) = false := bne_eq_false_iff_eq.mpr c43
                                      clear c43
                                      have H' := Aside0.mk H
                                      clear H
                                      have p42 : 0 ≤ (x11_2 : Int) := of_decide_eq_true (by first | (with_reducible assumption) | assumption)
                                      have q42 : x11_2 < (a0.size : Int) := of_decide_eq_true (by first | (with_reducible assumption) | assumption)
                                      have hx42 := bt_at a0 x11_2
                                      replace p42 := eq_true p42
                                      replace q42 := eq_true q42
                                      go_wp2
                                      go_roundg kj25
                                      case measure => have := HK1.out; have := HK2.out; have := HJ10.out; have := HJ15.out; have := HJ25.out; omega
                                      case rel => exact ⟨(x7_2), (x8_25), (x9_25), (((bt a0 x11_2) == 35)), (wrap64 (x11_2 + 1)), (by first | rfl | (simp; done) | (simp [*]; done)), (by first | rfl | (simp; done) | (simp [*]; done)), (by first | rfl | (simp; done) | (simp [*]; done)), H', ⟨by have := HK1.out; have := HK2.out; have := HJ10.out; have := HJ15.out; have := HJ25.out; omega⟩, ⟨by (with_reducible repeat (first | apply Kd.S_alloc | apply Kd.S_drewN | apply Kd.S_drew)); exact HO_7.out⟩, ⟨by (with_reducible repeat (first | apply Kd.R_alloc | apply Kd.R_drewN | apply Kd.R_drew)); exact HO_8.out⟩, ⟨by repeat (first | (with_reducible first | exact HB.out | apply below_alloc | apply pw_below_drewN | apply below_drew1) | exact HB.out)⟩⟩
                                    · rw [if_neg c43] at H
                                      have c43b0 : ((bt a0 x11_2) == 35) = false := beq_eq_false_iff_ne.mpr c43
                                      have c43b1 : ((bt a0 x11_2) != 35) = true := bne_iff_ne.mpr c43
                                      by_cases c44 : x9_25 < 0
                                      · rw [if_pos c44] at H
                                        have c44b0 : decide (x9_25 < 0) = true := decide_eq_true c44
                                        clear c44
                                        by_cases c46 : (bt a0 x11_2) = 9
                                        · rw [if_pos c46] at H
                                          have c46b0 : ((bt a0 x11_2) == 9) = true := beq_iff_eq.mpr c46
                                          have c46b1 : ((bt a0 x11_2) != 9) = false := bne_eq_false_iff_eq.mpr c46
                                          clear c46
                                          have H' := Aside0.mk H
                                          clear H
                                          have p42 : 0 ≤ (x11_2 : Int) := of_decide_eq_true (by first | (with_reducible assumption) | assumption)
                                          have q42 : x11_2 < (a0.size : Int) := of_decide_eq_true (by first | (with_reducible assumption) | assumption)
                                          have hx42 := bt_at a0 x11_2
                                          replace p42 := eq_true p42
                                          replace q42 := eq_true q42
                                          have p45 : 0 ≤ (x11_2 : Int) := of_decide_eq_true (by first | (with_reducible assumption) | assumption)
                                          have q45 : x11_2 < (a0.size : Int) := of_decide_eq_true (by first | (with_reducible assumption) | assumption)
                                          have hx45 := bt_at a0 x11_2
                                          replace p45 := eq_true p45
                                          replace q45 := eq_true q45
                                          go_wp2
                                          go_roundg kj25
                                          case measure => have := HK1.out; have := HK2.out; have := HJ10.out; have := HJ15.out; have := HJ25.out; omega
                                          case rel => exact ⟨(x7_2), (x8_25), (x9_25), (((bt a0 x11_2) == 35)), (wrap64 (x11_2 + 1)), (by first | rfl | (simp; done) | (simp [*]; done)), (by first | rfl | (simp; done) | (simp [*]; done)), (by first | rfl | (simp; done) | (simp [*]; done)), H', ⟨by have := HK1.out; have := HK2.out; have := HJ10.out; have := HJ15.out; have := HJ25.out; omega⟩, ⟨by (with_reducible repeat (first | apply Kd.S_alloc | apply Kd.S_drewN | apply Kd.S_drew)); exact HO_7.out⟩, ⟨by (with_reducible repeat (first | apply Kd.R_alloc | apply Kd.R_drewN | apply Kd.R_drew)); exact HO_8.out⟩, ⟨by repeat (first | (with_reducible first | exact HB.out | apply below_alloc | apply pw_below_drewN | apply below_drew1) | exact HB.out)⟩⟩
                                        · rw [if_neg c46] at H
                                          have c46b0 : ((bt a0 x11_2) == 9) = false := beq_eq_false_iff_ne.mpr c46
                                          have c46b1 : ((bt a0 x11_2) != 9) = true := bne_iff_ne.mpr c46
                                          by_cases c48 : (bt a0 x11_2) = 32
                                          · rw [if_pos c48] at H
                                            have c48b0 : ((bt a0 x11_2) == 32) = true := beq_iff_eq.mpr c48
                                            have c48b1 : ((bt a0 x11_2) != 32) = false := bne_eq_false_iff_eq.mpr c48
                                            clear c48
                                            have H' := Aside0.mk H
                                            clear H
                                            have p42 : 0 ≤ (x11_2 : Int) := of_decide_eq_true (by first | (with_reducible assumption) | assumption)
                                            have q42 : x11_2 < (a0.size : Int) := of_decide_eq_true (by first | (with_reducible assumption) | assumption)
                                            have hx42 := bt_at a0 x11_2
                                            replace p42 := eq_true p42
                                            replace q42 := eq_true q42
                                            have p45 : 0 ≤ (x11_2 : Int) := of_decide_eq_true (by first | (with_reducible assumption) | assumption)
                                            have q45 : x11_2 < (a0.size : Int) := of_decide_eq_true (by first | (with_reducible assumption) | assumption)
                                            have hx45 := bt_at a0 x11_2
                                            replace p45 := eq_true p45
                                            replace q45 := eq_true q45
                                            have p47 : 0 ≤ (x11_2 : Int) := of_decide_eq_true (by first | (with_reducible assumption) | assumption)
                                            have q47 : x11_2 < (a0.size : Int) := of_decide_eq_true (by first | (with_reducible assumption) | assumption)
                                            have hx47 := bt_at a0 x11_2
                                            replace p47 := eq_true p47
                                            replace q47 := eq_true q47
                                            go_wp2
                                            go_roundg kj25
                                            case measure => have := HK1.out; have := HK2.out; have := HJ10.out; have := HJ15.out; have := HJ25.out; omega
                                            case rel => exact ⟨(x7_2), (x8_25), (x9_25), (((bt a0 x11_2) == 35)), (wrap64 (x11_2 + 1)), (by first | rfl | (simp; done) | (simp [*]; done)), (by first | rfl | (simp; done) | (simp [*]; done)), (by first | rfl | (simp; done) | (simp [*]; done)), H', ⟨by have := HK1.out; have := HK2.out; have := HJ10.out; have := HJ15.out; have := HJ25.out; omega⟩, ⟨by (with_reducible repeat (first | apply Kd.S_alloc | apply Kd.S_drewN | apply Kd.S_drew)); exact HO_7.out⟩, ⟨by (with_reducible repeat (first | apply Kd.R_alloc | apply Kd.R_drewN | apply Kd.R_drew)); exact HO_8.out⟩, ⟨by repeat (first | (with_reducible first | exact HB.out | apply below_alloc | apply pw_below_drewN | apply below_drew1) | exact HB.out)⟩⟩
                                          · rw [if_neg c48] at H
                                            have c48b0 : ((bt a0 x11_2) == 32) = false := beq_eq_false_iff_ne.mpr c48
                                            have c48b1 : ((bt a0 x11_2) != 32) = true := bne_iff_ne.mpr c48
                                            have H' := Aside0.mk H
                                            clear H
                                            have p42 : 0 ≤ (x11_2 : Int) := of_decide_eq_true (by first | (with_reducible assumption) | assumption)
                                            have q42 : x11_2 < (a0.size : Int) := of_decide_eq_true (by first | (with_reducible assumption) | assumption)
                                            have hx42 := bt_at a0 x11_2
                                            replace p42 := eq_true p42
                                            replace q42 := eq_true q42
                                            have p45 : 0 ≤ (x11_2 : Int) := of_decide_eq_true (by first | (with_reducible assumption) | assumption)
                                            have q45 : x11_2 < (a0.size : Int) := of_decide_eq_true (by first | (with_reducible assumption) | assumption)
                                            have hx45 := bt_at a0 x11_2
                                            replace p45 := eq_true p45
                                            replace q45 := eq_true q45
                                            have p47 : 0 ≤ (x11_2 : Int) := of_decide_eq_true (by first | (with_reducible assumption) | assumption)
                                            have q47 : x11_2 < (a0.size : Int) := of_decide_eq_true (by first | (with_reducible assumption) | assumption)
                                            have hx47 := bt_at a0 x11_2
                                            replace p47 := eq_true p47
                                            replace q47 := eq_true q47
                                            go_wp2
                                            go_roundg kj25
                                            case measure => have := HK1.out; have := HK2.out; have := HJ10.out; have := HJ15.out; have := HJ25.out; omega
                                            case rel => exact ⟨(x7_2), (x8_25), (x11_2), (((bt a0 x11_2) == 35)), (wrap64 (x11_2 + 1)), (by first | rfl | (simp; done) | (simp [*]; done)), (by first | rfl | (simp; done) | (simp [*]; done)), (by first | rfl | (simp; done) | (simp [*]; done)), H', ⟨by have := HK1.out; have := HK2.out; have := HJ10.out; have := HJ15.out; have := HJ25.out; omega⟩, ⟨by (with_reducible repeat (first | apply Kd.S_alloc | apply Kd.S_drewN | apply Kd.S_drew)); exact HO_7.out⟩, ⟨by (with_reducible repeat (first | apply Kd.R_alloc | apply Kd.R_drewN | apply Kd.R_drew)); exact HO_8.out⟩, ⟨by repeat (first | (with_reducible first | exact HB.out | apply below_alloc | apply pw_below_drewN | apply below_drew1) | exact HB.out)⟩⟩
                                      · rw [if_neg c44] at H
                                        have c44b0 : decide (x9_25 < 0) = false := decide_eq_false c44
                                        clear c44
                                        have H' := Aside0.mk H
                                        clear H
                                        have p42 : 0 ≤ (x11_2 : Int) := of_decide_eq_true (by first | (with_reducible assumption) | assumption)
                                        have q42 : x11_2 < (a0.size : Int) := of_decide_eq_true (by first | (with_reducible assumption) | assumption)
                                        have hx42 := bt_at a0 x11_2
                                        replace p42 := eq_true p42
                                        replace q42 := eq_true q42
                                        go_wp2
                                        go_roundg kj25
                                        case measure => have := HK1.out; have := HK2.out; have := HJ10.out; have := HJ15.out; have := HJ25.out; omega
                                        case rel => exact ⟨(x7_2), (x8_25), (x9_25), (((bt a0 x11_2) == 35)), (wrap64 (x11_2 + 1)), (by first | rfl | (simp; done) | (simp [*]; done)), (by first | rfl | (simp; done) | (simp [*]; done)), (by first | rfl | (simp; done) | (simp [*]; done)), H', ⟨by have := HK1.out; have := HK2.out; have := HJ10.out; have := HJ15.out; have := HJ25.out; omega⟩, ⟨by (with_reducible repeat (first | apply Kd.S_alloc | apply Kd.S_drewN | apply Kd.S_drew)); exact HO_7.out⟩, ⟨by (with_reducible repeat (first | apply Kd.R_alloc | apply Kd.R_drewN | apply Kd.R_drew)); exact HO_8.out⟩, ⟨by repeat (first | (with_reducible first | exact HB.out | apply below_alloc | apply pw_below_drewN | apply below_drew1) | exact HB.out)⟩⟩
                                  · rw [if_neg c41] at H
                                    exact absurd H (by simp)
                                · rw [if_neg c40] at H
                                  exact absurd H (by simp)
              · rw [if_neg c10] at H
                have c10b0 : decide (x11_2 ≤ (a0.size : Int)) = false := decide_eq_false c10
                clear c10
                simp only [Option.some.injEq, Prod.mk.injEq] at H
                obtain ⟨rfl, rfl, rfl⟩ := H
                go_wp2
                go_ret3
                exact ⟨_, by first | rfl | (simp [errW_none, errW_some] <;> rfl) | (simp [*, errW_none, errW_some] <;> rfl), by (with_reducible repeat (first | apply Kd.S_alloc | apply Kd.S_drewN | apply Kd.S_drew)); exact Kd.S_mono HO_7.out (fun _ hk => trivial), by repeat (first | (with_reducible first | exact HB.out | apply below_alloc | apply pw_below_drewN | apply below_drew1) | exact HB.out)⟩

end Go.Proofs.YtggibjbcbicpjaaDoor.QLexTells
