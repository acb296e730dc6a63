-- PRINTED BY print.sh 35421559b90ae4d0a3588c463048766b98c2df88dd9212a6774a882060cdf62d: not written by this session
import Derived.Test.YtnibdgjlbhdmfaaPNumPartsx0
import Derived.Test.YtnibdgjlbhdmfaaPNumPartsx1
namespace Go.Proofs.Ytnibdgjlbhdmfaa.PNumParts
open Go.RowKit Go.Proofs.YtnibdgjlbhdmfaaW.PrintWords Go.Proofs.YtnibdgjlbhdmfaaW.PrintLast Go.Proofs.YtnibdgjlbhdmfaaW.PrintMore
attribute [local go_sem] max2_int min2_int max_two min_two max_three min_three max_four min_four   -- for this text's walks alone
set_option linter.unusedVariables false
set_option linter.unusedSimpArgs false

/-! ### plnlaw1_NumParts: function 11 -/
def plnlaw1_NumParts.j0 : Nat → Int → Int → Bool → Option (Bool)
  | 0, _, _, _ => none
  | k + 1, x1, x7, x76 => if x76 = true then (some false) else (if x1 < 0 then (if x7 > x1 then (some (decide ((wrap64 (-x7)) > x1))) else (some false)) else (if x7 < x1 then (some (decide ((wrap64 (-x7)) < x1))) else (some false)))
def plnlaw1_NumParts.f (k : Nat) (a0 : Int) (a1 : Int) : Option (Bool) := (plnlaw1_first.f k).bind fun t110 => (if t110 = true then ((num_Do.f k 7 a0 a1).bind fun bt111 => ((num_Do.f k 8 a0 a1).bind fun bt113 => (if a1 = 0 then (if bt111.2 = 1 then (if bt113.2 = 1 then (if bt111.1 = 0 then (some (bt113.1 == 0)) else (some false)) else (some false)) else (some false)) else ((num_Do.f k 6 bt111.1 a1).bind fun bt115 => ((num_Do.f k 4 bt115.1 bt113.1).bind fun bt117 => (if bt111.2 = 0 then (if bt113.2 = 0 then (if bt117.1 = a0 then (if bt113.1 = 0 then (plnlaw1_NumParts.j0 k a1 bt113.1 false) else (plnlaw1_NumParts.j0 k a1 bt113.1 ((decide (bt113.1 < 0)) != (decide (a0 < 0))))) else (plnlaw1_NumParts.j0 k a1 bt113.1 true)) else (plnlaw1_NumParts.j0 k a1 bt113.1 true)) else (plnlaw1_NumParts.j0 k a1 bt113.1 true))))))) else (some false))
theorem plnlaw1_NumParts.mono_l : ∀ k, (∀ y0 y1 y2, LeO (plnlaw1_NumParts.j0 k y0 y1 y2) (plnlaw1_NumParts.j0 (k + 1) y0 y1 y2))
  | 0 => fun _ _ _ r h => by simp [plnlaw1_NumParts.j0] at h
  | k + 1 => by
    have ih0 := plnlaw1_NumParts.mono_l k
    · intro y0 y1 y2
      unfold plnlaw1_NumParts.j0
      repeat' first
      | (with_reducible exact ih0 _ _ _)
      | (with_reducible exact num_Do.mono _ _ _ _)
      | (with_reducible exact plnlaw1_first.mono _)
      | (with_reducible exact LeO.refl _)
      | (with_reducible exact LeO.none _)
      | (with_reducible refine LeO.ite ?_ ?_)
      | (with_reducible refine LeO.bind ?_ (fun _ => ?_))
      | exact ih0 _ _ _
      | exact num_Do.mono _ _ _ _
      | exact plnlaw1_first.mono _
      | exact LeO.none _
      | refine LeO.ite ?_ ?_
      | refine LeO.bind ?_ (fun _ => ?_)
theorem plnlaw1_NumParts.mono : ∀ a0 a1 k, LeO (plnlaw1_NumParts.f k a0 a1) (plnlaw1_NumParts.f (k + 1) a0 a1) := by
  intro a0 a1 k
  have ih0 := plnlaw1_NumParts.mono_l k
  unfold plnlaw1_NumParts.f
  repeat' first
      | (with_reducible exact ih0 _ _ _)
      | (with_reducible exact num_Do.mono _ _ _ _)
      | (with_reducible exact plnlaw1_first.mono _)
      | (with_reducible exact LeO.refl _)
      | (with_reducible exact LeO.none _)
      | (with_reducible refine LeO.ite ?_ ?_)
      | (with_reducible refine LeO.bind ?_ (fun _ => ?_))
      | exact ih0 _ _ _
      | exact num_Do.mono _ _ _ _
      | exact plnlaw1_first.mono _
      | exact LeO.none _
      | refine LeO.ite ?_ ?_
      | refine LeO.bind ?_ (fun _ => ?_)
set_option maxHeartbeats 8000000 in
set_option maxRecDepth 100000 in
theorem plnlaw1_NumParts.calls (k : Nat) (a0 : Int) (a1 : Int) (r : Bool) (w : World) (h : plnlaw1_NumParts.f k a0 a1 = some r) :
    Calls Try.prog 11 #[.int .i64 a0, .int .i64 a1] w fun e w' => e = .returned (.bool r) ∧ Drawn0 w w' := by
  have H : ((plnlaw1_first.f k).bind fun t110 => (if t110 = true then ((num_Do.f k 7 a0 a1).bind fun bt111 => ((num_Do.f k 8 a0 a1).bind fun bt113 => (if a1 = 0 then (if bt111.2 = 1 then (if bt113.2 = 1 then (if bt111.1 = 0 then (some (bt113.1 == 0)) else (some false)) else (some false)) else (some false)) else ((num_Do.f k 6 bt111.1 a1).bind fun bt115 => ((num_Do.f k 4 bt115.1 bt113.1).bind fun bt117 => (if bt111.2 = 0 then (if bt113.2 = 0 then (if bt117.1 = a0 then (if bt113.1 = 0 then (plnlaw1_NumParts.j0 k a1 bt113.1 false) else (plnlaw1_NumParts.j0 k a1 bt113.1 ((decide (bt113.1 < 0)) != (decide (a0 < 0))))) else (plnlaw1_NumParts.j0 k a1 bt113.1 true)) else (plnlaw1_NumParts.j0 k a1 bt113.1 true)) else (plnlaw1_NumParts.j0 k a1 bt113.1 true))))))) else (some false))) = some r := h
  clear h
  replace H := Option.bind_eq_some_iff.mp H
  obtain ⟨t110, A30, H⟩ := H
  replace H : (if t110 = true then ((num_Do.f k 7 a0 a1).bind fun bt111 => ((num_Do.f k 8 a0 a1).bind fun bt113 => (if a1 = 0 then (if bt111.2 = 1 then (if bt113.2 = 1 then (if bt111.1 = 0 then (some (bt113.1 == 0)) else (some false)) else (some false)) else (some false)) else ((num_Do.f k 6 bt111.1 a1).bind fun bt115 => ((num_Do.f k 4 bt115.1 bt113.1).bind fun bt117 => (if bt111.2 = 0 then (if bt113.2 = 0 then (if bt117.1 = a0 then (if bt113.1 = 0 then (plnlaw1_NumParts.j0 k a1 bt113.1 false) else (plnlaw1_NumParts.j0 k a1 bt113.1 ((decide (bt113.1 < 0)) != (decide (a0 < 0))))) else (plnlaw1_NumParts.j0 k a1 bt113.1 true)) else (plnlaw1_NumParts.j0 k a1 bt113.1 true)) else (plnlaw1_NumParts.j0 k a1 bt113.1 true))))))) else (some false)) = some r := H
  have A3 := Aside0.mk A30
  clear A30
  by_cases c4 : t110 = true
  · subst c4
    have H1 : ((num_Do.f k 7 a0 a1).bind fun bt111 => ((num_Do.f k 8 a0 a1).bind fun bt113 => (if a1 = 0 then (if bt111.2 = 1 then (if bt113.2 = 1 then (if bt111.1 = 0 then (some (bt113.1 == 0)) else (some false)) else (some false)) else (some false)) else ((num_Do.f k 6 bt111.1 a1).bind fun bt115 => ((num_Do.f k 4 bt115.1 bt113.1).bind fun bt117 => (if bt111.2 = 0 then (if bt113.2 = 0 then (if bt117.1 = a0 then (if bt113.1 = 0 then (plnlaw1_NumParts.j0 k a1 bt113.1 false) else (plnlaw1_NumParts.j0 k a1 bt113.1 ((decide (bt113.1 < 0)) != (decide (a0 < 0))))) else (plnlaw1_NumParts.j0 k a1 bt113.1 true)) else (plnlaw1_NumParts.j0 k a1 bt113.1 true)) else (plnlaw1_NumParts.j0 k a1 bt113.1 true))))))) = some r := by rw [if_pos rfl] at H; exact H
    clear H
    have H := H1
    clear H1
    replace H := Option.bind_eq_some_iff.mp H
    obtain ⟨⟨t111, t112⟩, A50, H⟩ := H
    replace H : ((num_Do.f k 8 a0 a1).bind fun bt113 => (if a1 = 0 then (if t112 = 1 then (if bt113.2 = 1 then (if t111 = 0 then (some (bt113.1 == 0)) else (some false)) else (some false)) else (some false)) else ((num_Do.f k 6 t111 a1).bind fun bt115 => ((num_Do.f k 4 bt115.1 bt113.1).bind fun bt117 => (if t112 = 0 then (if bt113.2 = 0 then (if bt117.1 = a0 then (if bt113.1 = 0 then (plnlaw1_NumParts.j0 k a1 bt113.1 false) else (plnlaw1_NumParts.j0 k a1 bt113.1 ((decide (bt113.1 < 0)) != (decide (a0 < 0))))) else (plnlaw1_NumParts.j0 k a1 bt113.1 true)) else (plnlaw1_NumParts.j0 k a1 bt113.1 true)) else (plnlaw1_NumParts.j0 k a1 bt113.1 true)))))) = some r := H
    have A5 := Aside0.mk A50
    clear A50
    replace H := Option.bind_eq_some_iff.mp H
    obtain ⟨⟨t113, t114⟩, A60, H⟩ := H
    replace H : (if a1 = 0 then (if t112 = 1 then (if t114 = 1 then (if t111 = 0 then (some (t113 == 0)) else (some false)) else (some false)) else (some false)) else ((num_Do.f k 6 t111 a1).bind fun bt115 => ((num_Do.f k 4 bt115.1 t113).bind fun bt117 => (if t112 = 0 then (if t114 = 0 then (if bt117.1 = a0 then (if t113 = 0 then (plnlaw1_NumParts.j0 k a1 t113 false) else (plnlaw1_NumParts.j0 k a1 t113 ((decide (t113 < 0)) != (decide (a0 < 0))))) else (plnlaw1_NumParts.j0 k a1 t113 true)) else (plnlaw1_NumParts.j0 k a1 t113 true)) else (plnlaw1_NumParts.j0 k a1 t113 true))))) = some r := H
    have A6 := Aside0.mk A60
    clear A60
    by_cases c7 : a1 = 0
    · rw [if_pos c7] at H
      have c7b0 : (a1 == 0) = true := beq_iff_eq.mpr c7
      have c7b1 : (a1 != 0) = false := bne_eq_false_iff_eq.mpr c7
      clear c7
      by_cases c8 : t112 = 1
      · rw [if_pos c8] at H
        have c8b0 : (t112 == 1) = true := beq_iff_eq.mpr c8
        have c8b1 : (t112 != 1) = false := bne_eq_false_iff_eq.mpr c8
        clear c8
        by_cases c9 : t114 = 1
        · rw [if_pos c9] at H
          have c9b0 : (t114 == 1) = true := beq_iff_eq.mpr c9
          have c9b1 : (t114 != 1) = false := bne_eq_false_iff_eq.mpr c9
          clear c9
          by_cases c10 : t111 = 0
          · rw [if_pos c10] at H
            have c10b0 : (t111 == 0) = true := beq_iff_eq.mpr c10
            have c10b1 : (t111 != 0) = false := bne_eq_false_iff_eq.mpr c10
            clear c10
            obtain rfl := Option.some.inj H
            go_enter Try.func11, Try.ntmps11
            go_wp2_with (first | ((with_reducible refine gate_callee (f := 34) rfl ?_); refine goesL_ (some 13) rfl rfl Try.func34 (by kernel_rfl) rfl #[] rfl (by (try simp only [List.map_toArray, List.map_cons, List.map_nil]); first | done | rfl | (simp only [List.length_drop, List.length_take]; rfl)) ?_; (with_reducible refine (plnlaw1_first.calls k  true _ A3.out).mono ?_); rintro e w' ⟨rfl, ⟨nd, rfl⟩⟩; refine ⟨_, rfl, ?_⟩) | ((with_reducible refine gate_callee (f := 35) rfl ?_); refine goesL_ (some 18) rfl rfl Try.func35 (by kernel_rfl) rfl #[.int .i64 7, .int .i64 a0, .int .i64 a1] rfl (by (try simp only [List.map_toArray, List.map_cons, List.map_nil]); first | done | rfl | (simp only [List.length_drop, List.length_take]; rfl)) ?_; (with_reducible refine (num_Do.calls k 7 a0 a1 t111 t112 _ A5.out).mono ?_); rintro e w' ⟨rfl, ⟨nd, rfl⟩⟩; refine ⟨_, rfl, ?_⟩) | ((with_reducible refine gate_callee (f := 35) rfl ?_); refine goesL_ (some 24) rfl rfl Try.func35 (by kernel_rfl) rfl #[.int .i64 8, .int .i64 a0, .int .i64 a1] rfl (by (try simp only [List.map_toArray, List.map_cons, List.map_nil]); first | done | rfl | (simp only [List.length_drop, List.length_take]; rfl)) ?_; (with_reducible refine (num_Do.calls k 8 a0 a1 t113 t114 _ A6.out).mono ?_); rintro e w' ⟨rfl, ⟨nd, rfl⟩⟩; refine ⟨_, rfl, ?_⟩))
            go_ret
            exact ⟨by first | rfl | (simp; done) | (simp [*]; done), by repeat (first | exact Drawn0.refl _ | apply Drawn0.step)⟩
          · rw [if_neg c10] at H
            have c10b0 : (t111 == 0) = false := beq_eq_false_iff_ne.mpr c10
            have c10b1 : (t111 != 0) = true := bne_iff_ne.mpr c10
            obtain rfl := Option.some.inj H
            go_enter Try.func11, Try.ntmps11
            go_wp2_with (first | ((with_reducible refine gate_callee (f := 34) rfl ?_); refine goesL_ (some 13) rfl rfl Try.func34 (by kernel_rfl) rfl #[] rfl (by (try simp only [List.map_toArray, List.map_cons, List.map_nil]); first | done | rfl | (simp only [List.length_drop, List.length_take]; rfl)) ?_; (with_reducible refine (plnlaw1_first.calls k  true _ A3.out).mono ?_); rintro e w' ⟨rfl, ⟨nd, rfl⟩⟩; refine ⟨_, rfl, ?_⟩) | ((with_reducible refine gate_callee (f := 35) rfl ?_); refine goesL_ (some 18) rfl rfl Try.func35 (by kernel_rfl) rfl #[.int .i64 7, .int .i64 a0, .int .i64 a1] rfl (by (try simp only [List.map_toArray, List.map_cons, List.map_nil]); first | done | rfl | (simp only [List.length_drop, List.length_take]; rfl)) ?_; (with_reducible refine (num_Do.calls k 7 a0 a1 t111 t112 _ A5.out).mono ?_); rintro e w' ⟨rfl, ⟨nd, rfl⟩⟩; refine ⟨_, rfl, ?_⟩) | ((with_reducible refine gate_callee (f := 35) rfl ?_); refine goesL_ (some 24) rfl rfl Try.func35 (by kernel_rfl) rfl #[.int .i64 8, .int .i64 a0, .int .i64 a1] rfl (by (try simp only [List.map_toArray, List.map_cons, List.map_nil]); first | done | rfl | (simp only [List.length_drop, List.length_take]; rfl)) ?_; (with_reducible refine (num_Do.calls k 8 a0 a1 t113 t114 _ A6.out).mono ?_); rintro e w' ⟨rfl, ⟨nd, rfl⟩⟩; refine ⟨_, rfl, ?_⟩))
            go_ret
            exact ⟨by first | rfl | (simp; done) | (simp [*]; done), by repeat (first | exact Drawn0.refl _ | apply Drawn0.step)⟩
        · rw [if_neg c9] at H
          have c9b0 : (t114 == 1) = false := beq_eq_false_iff_ne.mpr c9
          have c9b1 : (t114 != 1) = true := bne_iff_ne.mpr c9
          obtain rfl := Option.some.inj H
          go_enter Try.func11, Try.ntmps11
          go_wp2_with (first | ((with_reducible refine gate_callee (f := 34) rfl ?_); refine goesL_ (some 13) rfl rfl Try.func34 (by kernel_rfl) rfl #[] rfl (by (try simp only [List.map_toArray, List.map_cons, List.map_nil]); first | done | rfl | (simp only [List.length_drop, List.length_take]; rfl)) ?_; (with_reducible refine (plnlaw1_first.calls k  true _ A3.out).mono ?_); rintro e w' ⟨rfl, ⟨nd, rfl⟩⟩; refine ⟨_, rfl, ?_⟩) | ((with_reducible refine gate_callee (f := 35) rfl ?_); refine goesL_ (some 18) rfl rfl Try.func35 (by kernel_rfl) rfl #[.int .i64 7, .int .i64 a0, .int .i64 a1] rfl (by (try simp only [List.map_toArray, List.map_cons, List.map_nil]); first | done | rfl | (simp only [List.length_drop, List.length_take]; rfl)) ?_; (with_reducible refine (num_Do.calls k 7 a0 a1 t111 t112 _ A5.out).mono ?_); rintro e w' ⟨rfl, ⟨nd, rfl⟩⟩; refine ⟨_, rfl, ?_⟩) | ((with_reducible refine gate_callee (f := 35) rfl ?_); refine goesL_ (some 24) rfl rfl Try.func35 (by kernel_rfl) rfl #[.int .i64 8, .int .i64 a0, .int .i64 a1] rfl (by (try simp only [List.map_toArray, List.map_cons, List.map_nil]); first | done | rfl | (simp only [List.length_drop, List.length_take]; rfl)) ?_; (with_reducible refine (num_Do.calls k 8 a0 a1 t113 t114 _ A6.out).mono ?_); rintro e w' ⟨rfl, ⟨nd, rfl⟩⟩; refine ⟨_, rfl, ?_⟩))
          go_ret
          exact ⟨by first | rfl | (simp; done) | (simp [*]; done), by repeat (first | exact Drawn0.refl _ | apply Drawn0.step)⟩
      · rw [if_neg c8] at H
        have c8b0 : (t112 == 1) = false := beq_eq_false_iff_ne.mpr c8
        have c8b1 : (t112 != 1) = true := bne_iff_ne.mpr c8
        obtain rfl := Option.some.inj H
        go_enter Try.func11, Try.ntmps11
        go_wp2_with (first | ((with_reducible refine gate_callee (f := 34) rfl ?_); refine goesL_ (some 13) rfl rfl Try.func34 (by kernel_rfl) rfl #[] rfl (by (try simp only [List.map_toArray, List.map_cons, List.map_nil]); first | done | rfl | (simp only [List.length_drop, List.length_take]; rfl)) ?_; (with_reducible refine (plnlaw1_first.calls k  true _ A3.out).mono ?_); rintro e w' ⟨rfl, ⟨nd, rfl⟩⟩; refine ⟨_, rfl, ?_⟩) | ((with_reducible refine gate_callee (f := 35) rfl ?_); refine goesL_ (some 18) rfl rfl Try.func35 (by kernel_rfl) rfl #[.int .i64 7, .int .i64 a0, .int .i64 a1] rfl (by (try simp only [List.map_toArray, List.map_cons, List.map_nil]); first | done | rfl | (simp only [List.length_drop, List.length_take]; rfl)) ?_; (with_reducible refine (num_Do.calls k 7 a0 a1 t111 t112 _ A5.out).mono ?_); rintro e w' ⟨rfl, ⟨nd, rfl⟩⟩; refine ⟨_, rfl, ?_⟩) | ((with_reducible refine gate_callee (f := 35) rfl ?_); refine goesL_ (some 24) rfl rfl Try.func35 (by kernel_rfl) rfl #[.int .i64 8, .int .i64 a0, .int .i64 a1] rfl (by (try simp only [List.map_toArray, List.map_cons, List.map_nil]); first | done | rfl | (simp only [List.length_drop, List.length_take]; rfl)) ?_; (with_reducible refine (num_Do.calls k 8 a0 a1 t113 t114 _ A6.out).mono ?_); rintro e w' ⟨rfl, ⟨nd, rfl⟩⟩; refine ⟨_, rfl, ?_⟩))
        go_ret
        exact ⟨by first | rfl | (simp; done) | (simp [*]; done), by repeat (first | exact Drawn0.refl _ | apply Drawn0.step)⟩
    · rw [if_neg c7] at H
      have c7b0 : (a1 == 0) = false := beq_eq_false_iff_ne.mpr c7
      have c7b1 : (a1 != 0) = true := bne_iff_ne.mpr c7
      replace H := Option.bind_eq_some_iff.mp H
      obtain ⟨⟨t115, t116⟩, A110, H⟩ := H
      replace H : ((num_Do.f k 4 t115 t113).bind fun bt117 => (if t112 = 0 then (if t114 = 0 then (if bt117.1 = a0 then (if t113 = 0 then (plnlaw1_NumParts.j0 k a1 t113 false) else (plnlaw1_NumParts.j0 k a1 t113 ((decide (t113 < 0)) != (decide (a0 < 0))))) else (plnlaw1_NumParts.j0 k a1 t113 true)) else (plnlaw1_NumParts.j0 k a1 t113 true)) else (plnlaw1_NumParts.j0 k a1 t113 true))) = some r := H
      have A11 := Aside0.mk A110
      clear A110
      replace H := Option.bind_eq_some_iff.mp H
      obtain ⟨⟨t117, t118⟩, A120, H⟩ := H
      replace H : (if t112 = 0 then (if t114 = 0 then (if t117 = a0 then (if t113 = 0 then (plnlaw1_NumParts.j0 k a1 t113 false) else (plnlaw1_NumParts.j0 k a1 t113 ((decide (t113 < 0)) != (decide (a0 < 0))))) else (plnlaw1_NumParts.j0 k a1 t113 true)) else (plnlaw1_NumParts.j0 k a1 t113 true)) else (plnlaw1_NumParts.j0 k a1 t113 true)) = some r := H
      have A12 := Aside0.mk A120
      clear A120
      have HC13 := Aside0.mk H
      clear H
      go_enter Try.func11, Try.ntmps11
      go_upto_region 9 with (first | ((with_reducible refine gate_callee (f := 34) rfl ?_); refine goesL_ (some 13) rfl rfl Try.func34 (by kernel_rfl) rfl #[] rfl (by (try simp only [List.map_toArray, List.map_cons, List.map_nil]); first | done | rfl | (simp only [List.length_drop, List.length_take]; rfl)) ?_; (with_reducible refine (plnlaw1_first.calls k  true _ A3.out).mono ?_); rintro e w' ⟨rfl, ⟨nd, rfl⟩⟩; refine ⟨_, rfl, ?_⟩) | ((with_reducible refine gate_callee (f := 35) rfl ?_); refine goesL_ (some 18) rfl rfl Try.func35 (by kernel_rfl) rfl #[.int .i64 7, .int .i64 a0, .int .i64 a1] rfl (by (try simp only [List.map_toArray, List.map_cons, List.map_nil]); first | done | rfl | (simp only [List.length_drop, List.length_take]; rfl)) ?_; (with_reducible refine (num_Do.calls k 7 a0 a1 t111 t112 _ A5.out).mono ?_); rintro e w' ⟨rfl, ⟨nd, rfl⟩⟩; refine ⟨_, rfl, ?_⟩) | ((with_reducible refine gate_callee (f := 35) rfl ?_); refine goesL_ (some 24) rfl rfl Try.func35 (by kernel_rfl) rfl #[.int .i64 8, .int .i64 a0, .int .i64 a1] rfl (by (try simp only [List.map_toArray, List.map_cons, List.map_nil]); first | done | rfl | (simp only [List.length_drop, List.length_take]; rfl)) ?_; (with_reducible refine (num_Do.calls k 8 a0 a1 t113 t114 _ A6.out).mono ?_); rintro e w' ⟨rfl, ⟨nd, rfl⟩⟩; refine ⟨_, rfl, ?_⟩) | ((with_reducible refine gate_callee (f := 35) rfl ?_); refine goesL_ (some 46) rfl rfl Try.func35 (by kernel_rfl) rfl #[.int .i64 6, .int .i64 t111, .int .i64 a1] rfl (by (try simp only [List.map_toArray, List.map_cons, List.map_nil]); first | done | rfl | (simp only [List.length_drop, List.length_take]; rfl)) ?_; (with_reducible refine (num_Do.calls k 6 t111 a1 t115 t116 _ A11.out).mono ?_); rintro e w' ⟨rfl, ⟨nd, rfl⟩⟩; refine ⟨_, rfl, ?_⟩) | ((with_reducible refine gate_callee (f := 35) rfl ?_); refine goesL_ (some 52) rfl rfl Try.func35 (by kernel_rfl) rfl #[.int .i64 4, .int .i64 t115, .int .i64 t113] rfl (by (try simp only [List.map_toArray, List.map_cons, List.map_nil]); first | done | rfl | (simp only [List.length_drop, List.length_take]; rfl)) ?_; (with_reducible refine (num_Do.calls k 4 t115 t113 t117 t118 _ A12.out).mono ?_); rintro e w' ⟨rfl, ⟨nd, rfl⟩⟩; refine ⟨_, rfl, ?_⟩))
      (try simp only [Act.put, List.setIfInBounds_toArray, List.set_cons_zero, List.set_cons_succ])
      go_cut [76] (fun v76 wc => ∃ (kq : Nat) (x76_12 : Bool), v76 = .bool x76_12 ∧ Aside0 (plnlaw1_NumParts.j0 kq a1 t113 x76_12 = some r) ∧ Aside0 (kq ≤ k) ∧ Drawn0 w wc)
      case first =>
        have H := HC13.out
        clear HC13
        by_cases c14 : t112 = 0
        · rw [if_pos c14] at H
          have c14b0 : (t112 == 0) = true := beq_iff_eq.mpr c14
          have c14b1 : (t112 != 0) = false := bne_eq_false_iff_eq.mpr c14
          clear c14
          (first | rw [c14b0] | (simp only [i64_w, i32_w]; rw [c14b0]) | skip)
          by_cases c15 : t114 = 0
          · rw [if_pos c15] at H
            have c15b0 : (t114 == 0) = true := beq_iff_eq.mpr c15
            have c15b1 : (t114 != 0) = false := bne_eq_false_iff_eq.mpr c15
            clear c15
            by_cases c16 : t117 = a0
            · rw [if_pos c16] at H
              have c16b0 : (t117 == a0) = true := beq_iff_eq.mpr c16
              have c16b1 : (t117 != a0) = false := bne_eq_false_iff_eq.mpr c16
              clear c16
              by_cases c17 : t113 = 0
              · rw [if_pos c17] at H
                have c17b0 : (t113 == 0) = true := beq_iff_eq.mpr c17
                have c17b1 : (t113 != 0) = false := bne_eq_false_iff_eq.mpr c17
                clear c17
                have H' := Aside0.mk H
                clear H
                go_wp2
                go_meet
                case rel => exact ⟨_, (false), (by first | rfl | (simp; done) | (simp [*]; done)), H', ⟨by first | omega | exact Nat.le_refl _⟩, by repeat (first | exact Drawn0.refl _ | apply Drawn0.step)⟩
              · rw [if_neg c17] at H
                have c17b0 : (t113 == 0) = false := beq_eq_false_iff_ne.mpr c17
                have c17b1 : (t113 != 0) = true := bne_iff_ne.mpr c17
                have H' := Aside0.mk H
                clear H
                go_wp2
                go_meet
                case rel => exact ⟨_, (((decide (t113 < 0)) != (decide (a0 < 0)))), (by first | rfl | (simp; done) | (simp [*]; done)), H', ⟨by first | omega | exact Nat.le_refl _⟩, by repeat (first | exact Drawn0.refl _ | apply Drawn0.step)⟩
            · rw [if_neg c16] at H
              have c16b0 : (t117 == a0) = false := beq_eq_false_iff_ne.mpr c16
              have c16b1 : (t117 != a0) = true := bne_iff_ne.mpr c16
              have H' := Aside0.mk H
              clear H
              go_wp2
              go_meet
              case rel => exact ⟨_, (true), (by first | rfl | (simp; done) | (simp [*]; done)), H', ⟨by first | omega | exact Nat.le_refl _⟩, by repeat (first | exact Drawn0.refl _ | apply Drawn0.step)⟩
          · rw [if_neg c15] at H
            have c15b0 : (t114 == 0) = false := beq_eq_false_iff_ne.mpr c15
            have c15b1 : (t114 != 0) = true := bne_iff_ne.mpr c15
            have H' := Aside0.mk H
            clear H
            go_wp2
            go_meet
            case rel => exact ⟨_, (true), (by first | rfl | (simp; done) | (simp [*]; done)), H', ⟨by first | omega | exact Nat.le_refl _⟩, by repeat (first | exact Drawn0.refl _ | apply Drawn0.step)⟩
        · rw [if_neg c14] at H
          have c14b0 : (t112 == 0) = false := beq_eq_false_iff_ne.mpr c14
          have c14b1 : (t112 != 0) = true := bne_iff_ne.mpr c14
          (first | rw [c14b0] | (simp only [i64_w, i32_w]; rw [c14b0]) | skip)
          have H' := Aside0.mk H
          clear H
          go_wp2
          go_meet
          case rel => exact ⟨_, (true), (by first | rfl | (simp; done) | (simp [*]; done)), H', ⟨by first | omega | exact Nat.le_refl _⟩, by repeat (first | exact Drawn0.refl _ | apply Drawn0.step)⟩
      case rest =>
        clear HC13
        try clear c1
        try clear p2
        try clear c3
        try clear c4
        try clear c7
        try clear c7b0
        try clear c7b1
        try clear c8
        try clear c8b0
        try clear c8b1
        try clear c9
        try clear c9b0
        try clear c9b1
        try clear c10
        try clear c10b0
        try clear c10b1
        try clear c11
        try clear c14
        try clear c14b0
        try clear c14b1
        try clear c15
        try clear c15b0
        try clear c15b1
        try clear c16
        try clear c16b0
        try clear c16b1
        try clear c17
        try clear c17b0
        try clear c17b1
        obtain ⟨kq, x76_12, rfl, HA, HJ12, ⟨mc12, rfl⟩⟩ := hcut
        cases kq with
        | zero => exact absurd HA.out (by simp [plnlaw1_NumParts.j0])
        | succ kj12 =>
          have H := HA.out
          clear HA
          simp only [plnlaw1_NumParts.j0] at H
          by_cases c18 : x76_12 = true
          · subst c18
            have H1 : (some false) = some r := by rw [if_pos rfl] at H; exact H
            clear H
            have H := H1
            clear H1
            obtain rfl := Option.some.inj H
            go_wp2
            go_ret
            exact ⟨by first | rfl | (simp; done) | (simp [*]; done), by repeat (first | exact Drawn0.refl _ | apply Drawn0.step)⟩
          · replace c18 := Bool.eq_false_iff.mpr c18
            subst c18
            have H1 : (if a1 < 0 then (if t113 > a1 then (some (decide ((wrap64 (-t113)) > a1))) else (some false)) else (if t113 < a1 then (some (decide ((wrap64 (-t113)) < a1))) else (some false))) = some r := by rw [if_neg (show ¬ (false = true) by decide)] at H; exact H
            clear H
            have H := H1
            clear H1
            by_cases c19 : a1 < 0
            · rw [if_pos c19] at H
              have c19b0 : decide (a1 < 0) = true := decide_eq_true c19
              clear c19
              by_cases c20 : t113 > a1
              · rw [if_pos c20] at H
                have c20b0 : decide (a1 < t113) = true := decide_eq_true c20
                clear c20
                obtain rfl := Option.some.inj H
                go_wp2
                go_ret
                exact ⟨by first | rfl | (simp; done) | (simp [*]; done), by repeat (first | exact Drawn0.refl _ | apply Drawn0.step)⟩
              · rw [if_neg c20] at H
                have c20b0 : decide (a1 < t113) = false := decide_eq_false c20
                clear c20
                obtain rfl := Option.some.inj H
                go_wp2
                go_ret
                exact ⟨by first | rfl | (simp; done) | (simp [*]; done), by repeat (first | exact Drawn0.refl _ | apply Drawn0.step)⟩
            · rw [if_neg c19] at H
              have c19b0 : decide (a1 < 0) = false := decide_eq_false c19
              clear c19
              by_cases c21 : t113 < a1
              · rw [if_pos c21] at H
                have c21b0 : decide (t113 < a1) = true := decide_eq_true c21
                clear c21
                obtain rfl := Option.some.inj H
                go_wp2
                go_ret
                exact ⟨by first | rfl | (simp; done) | (simp [*]; done), by repeat (first | exact Drawn0.refl _ | apply Drawn0.step)⟩
              · rw [if_neg c21] at H
                have c21b0 : decide (t113 < a1) = false := decide_eq_false c21
                clear c21
                obtain rfl := Option.some.inj H
                go_wp2
                go_ret
                exact ⟨by first | rfl | (simp; done) | (simp [*]; done), by repeat (first | exact Drawn0.refl _ | apply Drawn0.step)⟩
  · replace c4 := Bool.eq_false_iff.mpr c4
    subst c4
    have H1 : (some false) = some r := by rw [if_neg (show ¬ (false = true) by decide)] at H; exact H
    clear H
    have H := H1
    clear H1
    obtain rfl := Option.some.inj H
    go_enter Try.func11, Try.ntmps11
    go_wp2_with (first | ((with_reducible refine gate_callee (f := 34) rfl ?_); refine goesL_ (some 13) rfl rfl Try.func34 (by kernel_rfl) rfl #[] rfl (by (try simp only [List.map_toArray, List.map_cons, List.map_nil]); first | done | rfl | (simp only [List.length_drop, List.length_take]; rfl)) ?_; (with_reducible refine (plnlaw1_first.calls k  false _ A3.out).mono ?_); rintro e w' ⟨rfl, ⟨nd, rfl⟩⟩; refine ⟨_, rfl, ?_⟩))
    go_ret
    exact ⟨by first | rfl | (simp; done) | (simp [*]; done), by repeat (first | exact Drawn0.refl _ | apply Drawn0.step)⟩

/-- THE ONE PURE STATEMENT of plnlaw1_NumParts: yours. -/
def plnlaw1_NumParts.Pure : Prop := ∀ (a0 : Int) (a1 : Int), (Lit.int .i64 a0).wf = true → (Lit.int .i64 a1).wf = true → ∃ k, plnlaw1_NumParts.f k a0 a1 = some true
theorem plnlaw1_NumParts.walk (P : plnlaw1_NumParts.Pure) (a0 : Int) (a1 : Int) (w : World) (w0 : (Lit.int .i64 a0).wf = true) (w1 : (Lit.int .i64 a1).wf = true) :
    Calls Try.prog 11 #[.int .i64 a0, .int .i64 a1] w fun e w' => e = .returned (.bool true) ∧ Below w.heap.size w w' := by
  obtain ⟨k, h⟩ := P a0 a1 w0 w1
  refine (plnlaw1_NumParts.calls k a0 a1 true w h).mono ?_
  rintro e w' ⟨rfl, hd⟩
  exact ⟨rfl, hd.below⟩

end Go.Proofs.Ytnibdgjlbhdmfaa.PNumParts
