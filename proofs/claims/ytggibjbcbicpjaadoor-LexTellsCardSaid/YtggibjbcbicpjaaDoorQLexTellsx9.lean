-- Laid by a program of this session out of Lean's print of the program.
import Derived.Test.YtggibjbcbicpjaaDoorQLexTellsx0
import Derived.Test.YtggibjbcbicpjaaDoorQLexTellsx4
import Derived.Test.YtggibjbcbicpjaaDoorLexFirst
import Derived.Test.YtggibjbcbicpjaaDoorTellsAid
namespace Go.Proofs.YtggibjbcbicpjaaDoor.QLexTells
open Go.RowKit Go.Proofs.YtggibjbcbicpjaaDoorW.PrintWords Go.Proofs.YtggibjbcbicpjaaDoorW.PrintLast Go.Proofs.YtggibjbcbicpjaaDoorW.PrintMore
open Go.Proofs.YtggibjbcbicpjaaDoor.QLexWhere
open Go.Proofs.YtggibjbcbicpjaaDoor.Num (LaidW)
open Go.Proofs.YtggibjbcbicpjaaDoor.TellsAid
attribute [local go_sem] max2_int min2_int max_two min_two max_three min_three max_four min_four   -- for this text's walks alone
set_option linter.unusedVariables false
set_option linter.unusedSimpArgs false

/-! ### plnlaw7_LexTells: function 3 -/
mutual
def plnlaw7_LexTells.j0 : Nat → ByteArray → Bool → Option (Bool)
  | 0, _, _ => none
  | k + 1, x0, x34 => if x34 = true then ((plnlaw7_first.f k).bind fun t191 => (some t191)) else ((lex_Lines.f k x0).bind fun bt192 => ((plnref1_Lines.f k x0).bind fun bt197 => (if bt192.2.1 = bt197.2.1 then (if bt192.2.2 = bt197.2.2 then (plnlaw7_LexTells.j1 k bt192.1 bt197.1 ((bt192.1.length : Int) != (bt197.1.length : Int))) else (plnlaw7_LexTells.j1 k bt192.1 bt197.1 true)) else (plnlaw7_LexTells.j1 k bt192.1 bt197.1 true))))
def plnlaw7_LexTells.j1 : Nat → List (S32) → List (List (S36)) → Bool → Option (Bool)
  | 0, _, _, _ => none
  | k + 1, x9, x12, x62 => if x62 = true then (some false) else (plnlaw7_LexTells.l0 k x9 x12 0)
def plnlaw7_LexTells.l0 : Nat → List (S32) → List (List (S36)) → Int → Option (Bool)
  | 0, _, _, _ => none
  | k + 1, x9, x12, x15 => if x15 < (x9.length : Int) then (if 0 ≤ x15 then (if x15 < (x12.length : Int) then (if (((rd_T32 x9 x15).f0).length : Int) = ((rd_L6 x12 x15).length : Int) then (plnlaw7_LexTells.l1 k x9 x12 x15 0) else (some false)) else (none)) else (none)) else (some true)
def plnlaw7_LexTells.l1 : Nat → List (S32) → List (List (S36)) → Int → Int → Option (Bool)
  | 0, _, _, _, _ => none
  | k + 1, x9, x12, x15, x16 => if 0 ≤ x15 then (if x15 < (x12.length : Int) then (if x16 < ((rd_L6 x12 x15).length : Int) then (if x15 < (x9.length : Int) then (if 0 ≤ x16 then (if x16 < (((rd_T32 x9 x15).f0).length : Int) then (if ((rd_T35 ((rd_T32 x9 x15).f0) x16).f0).toList = ((rd_T36 (rd_L6 x12 x15) x16).f0).toList then (if ((rd_T35 ((rd_T32 x9 x15).f0) x16).f1) = ((rd_T36 (rd_L6 x12 x15) x16).f1) then (plnlaw7_LexTells.l1 k x9 x12 x15 (wrap64 (x16 + 1))) else (some false)) else (some false)) else (none)) else (none)) else (none)) else (plnlaw7_LexTells.l0 k x9 x12 (wrap64 (x15 + 1)))) else (none)) else (none)
end
def plnlaw7_LexTells.f (k : Nat) (a0 : ByteArray) (a1 : ByteArray) (a2 : Int) (a3 : Int) : Option (Bool) := (plnlaw7_first.f k).bind fun t190 => (if t190 = true then (if (a0.size : Int) > 1000 then (plnlaw7_LexTells.j0 k a0 true) else (plnlaw7_LexTells.j0 k a0 (decide ((a1.size : Int) > 100)))) else (some false))
theorem plnlaw7_LexTells.mono_l : ∀ k, (∀ y0 y1, LeO (plnlaw7_LexTells.j0 k y0 y1) (plnlaw7_LexTells.j0 (k + 1) y0 y1)) ∧ (∀ y0 y1 y2, LeO (plnlaw7_LexTells.j1 k y0 y1 y2) (plnlaw7_LexTells.j1 (k + 1) y0 y1 y2)) ∧ (∀ y0 y1 y2, LeO (plnlaw7_LexTells.l0 k y0 y1 y2) (plnlaw7_LexTells.l0 (k + 1) y0 y1 y2)) ∧ (∀ y0 y1 y2 y3, LeO (plnlaw7_LexTells.l1 k y0 y1 y2 y3) (plnlaw7_LexTells.l1 (k + 1) y0 y1 y2 y3))
  | 0 => ⟨fun _ _ r h => by simp [plnlaw7_LexTells.j0] at h, fun _ _ _ r h => by simp [plnlaw7_LexTells.j1] at h, fun _ _ _ r h => by simp [plnlaw7_LexTells.l0] at h, fun _ _ _ _ r h => by simp [plnlaw7_LexTells.l1] at h⟩
  | k + 1 => by
    obtain ⟨ih0, ih1, ih2, ih3⟩ := plnlaw7_LexTells.mono_l k
    refine ⟨?_, ?_, ?_, ?_⟩
    · intro y0 y1
      unfold plnlaw7_LexTells.j0
      repeat' first
      | (with_reducible exact ih0 _ _)
      | (with_reducible exact ih1 _ _ _)
      | (with_reducible exact ih2 _ _ _)
      | (with_reducible exact ih3 _ _ _ _)
      | (with_reducible exact lex_Lines.mono _ _)
      | (with_reducible exact plnlaw7_first.mono _)
      | (with_reducible exact plnref1_Lines.mono _ _)
      | (with_reducible exact LeO.refl _)
      | (with_reducible exact LeO.none _)
      | (with_reducible refine LeO.ite ?_ ?_)
      | (with_reducible refine LeO.bind ?_ (fun _ => ?_))
      | exact ih0 _ _
      | exact ih1 _ _ _
      | exact ih2 _ _ _
      | exact ih3 _ _ _ _
      | exact lex_Lines.mono _ _
      | exact plnlaw7_first.mono _
      | exact plnref1_Lines.mono _ _
      | exact LeO.none _
      | refine LeO.ite ?_ ?_
      | refine LeO.bind ?_ (fun _ => ?_)
    · intro y0 y1 y2
      unfold plnlaw7_LexTells.j1
      repeat' first
      | (with_reducible exact ih0 _ _)
      | (with_reducible exact ih1 _ _ _)
      | (with_reducible exact ih2 _ _ _)
      | (with_reducible exact ih3 _ _ _ _)
      | (with_reducible exact lex_Lines.mono _ _)
      | (with_reducible exact plnlaw7_first.mono _)
      | (with_reducible exact plnref1_Lines.mono _ _)
      | (with_reducible exact LeO.refl _)
      | (with_reducible exact LeO.none _)
      | (with_reducible refine LeO.ite ?_ ?_)
      | (with_reducible refine LeO.bind ?_ (fun _ => ?_))
      | exact ih0 _ _
      | exact ih1 _ _ _
      | exact ih2 _ _ _
      | exact ih3 _ _ _ _
      | exact lex_Lines.mono _ _
      | exact plnlaw7_first.mono _
      | exact plnref1_Lines.mono _ _
      | exact LeO.none _
      | refine LeO.ite ?_ ?_
      | refine LeO.bind ?_ (fun _ => ?_)
    · intro y0 y1 y2
      unfold plnlaw7_LexTells.l0
      repeat' first
      | (with_reducible exact ih0 _ _)
      | (with_reducible exact ih1 _ _ _)
      | (with_reducible exact ih2 _ _ _)
      | (with_reducible exact ih3 _ _ _ _)
      | (with_reducible exact lex_Lines.mono _ _)
      | (with_reducible exact plnlaw7_first.mono _)
      | (with_reducible exact plnref1_Lines.mono _ _)
      | (with_reducible exact LeO.refl _)
      | (with_reducible exact LeO.none _)
      | (with_reducible refine LeO.ite ?_ ?_)
      | (with_reducible refine LeO.bind ?_ (fun _ => ?_))
      | exact ih0 _ _
      | exact ih1 _ _ _
      | exact ih2 _ _ _
      | exact ih3 _ _ _ _
      | exact lex_Lines.mono _ _
      | exact plnlaw7_first.mono _
      | exact plnref1_Lines.mono _ _
      | exact LeO.none _
      | refine LeO.ite ?_ ?_
      | refine LeO.bind ?_ (fun _ => ?_)
    · intro y0 y1 y2 y3
      unfold plnlaw7_LexTells.l1
      repeat' first
      | (with_reducible exact ih0 _ _)
      | (with_reducible exact ih1 _ _ _)
      | (with_reducible exact ih2 _ _ _)
      | (with_reducible exact ih3 _ _ _ _)
      | (with_reducible exact lex_Lines.mono _ _)
      | (with_reducible exact plnlaw7_first.mono _)
      | (with_reducible exact plnref1_Lines.mono _ _)
      | (with_reducible exact LeO.refl _)
      | (with_reducible exact LeO.none _)
      | (with_reducible refine LeO.ite ?_ ?_)
      | (with_reducible refine LeO.bind ?_ (fun _ => ?_))
      | exact ih0 _ _
      | exact ih1 _ _ _
      | exact ih2 _ _ _
      | exact ih3 _ _ _ _
      | exact lex_Lines.mono _ _
      | exact plnlaw7_first.mono _
      | exact plnref1_Lines.mono _ _
      | exact LeO.none _
      | refine LeO.ite ?_ ?_
      | refine LeO.bind ?_ (fun _ => ?_)
theorem plnlaw7_LexTells.mono : ∀ a0 a1 a2 a3 k, LeO (plnlaw7_LexTells.f k a0 a1 a2 a3) (plnlaw7_LexTells.f (k + 1) a0 a1 a2 a3) := by
  intro a0 a1 a2 a3 k
  obtain ⟨ih0, ih1, ih2, ih3⟩ := plnlaw7_LexTells.mono_l k
  unfold plnlaw7_LexTells.f
  repeat' first
      | (with_reducible exact ih0 _ _)
      | (with_reducible exact ih1 _ _ _)
      | (with_reducible exact ih2 _ _ _)
      | (with_reducible exact ih3 _ _ _ _)
      | (with_reducible exact lex_Lines.mono _ _)
      | (with_reducible exact plnlaw7_first.mono _)
      | (with_reducible exact plnref1_Lines.mono _ _)
      | (with_reducible exact LeO.refl _)
      | (with_reducible exact LeO.none _)
      | (with_reducible refine LeO.ite ?_ ?_)
      | (with_reducible refine LeO.bind ?_ (fun _ => ?_))
      | exact ih0 _ _
      | exact ih1 _ _ _
      | exact ih2 _ _ _
      | exact ih3 _ _ _ _
      | exact lex_Lines.mono _ _
      | exact plnlaw7_first.mono _
      | exact plnref1_Lines.mono _ _
      | exact LeO.none _
      | refine LeO.ite ?_ ?_
      | refine LeO.bind ?_ (fun _ => ?_)
set_option maxHeartbeats 8000000 in
set_option maxRecDepth 100000 in
theorem plnlaw7_LexTells.calls (k : Nat) (a0 : ByteArray) (a1 : ByteArray) (a2 : Int) (a3 : Int) (r : Bool) (w : World) (hLw : LaidW w) (hT : Tl a1 a2 a3) (h : plnlaw7_LexTells.f k a0 a1 a2 a3 = some r) :
    Calls Tryd.prog 3 #[.string a0, .string a1, .int .i64 a2, .int .u8 a3] w fun e w' => e = .returned (.bool r) ∧ Below w.heap.size w w' := by
  have HB := Aside0.mk (Below.refl w.heap.size w)
  have H : ((plnlaw7_first.f k).bind fun t190 => (if t190 = true then (if (a0.size : Int) > 1000 then (plnlaw7_LexTells.j0 k a0 true) else (plnlaw7_LexTells.j0 k a0 (decide ((a1.size : Int) > 100)))) else (some false))) = some r := h
  clear h
  replace H := Option.bind_eq_some_iff.mp H
  obtain ⟨t190, A50, H⟩ := H
  replace H : (if t190 = true then (if (a0.size : Int) > 1000 then (plnlaw7_LexTells.j0 k a0 true) else (plnlaw7_LexTells.j0 k a0 (decide ((a1.size : Int) > 100)))) else (some false)) = some r := H
  have A5 := Aside0.mk A50
  clear A50
  by_cases c6 : t190 = true
  · subst c6
    have H1 : (if (a0.size : Int) > 1000 then (plnlaw7_LexTells.j0 k a0 true) else (plnlaw7_LexTells.j0 k a0 (decide ((a1.size : Int) > 100)))) = some r := by rw [if_pos rfl] at H; exact H
    clear H
    have H := H1
    clear H1
    have HC7 := Aside0.mk H
    clear H
    go_enter Tryd.func3, Tryd.ntmps3
    go_upto_region 3 with (first | (go_at_call 9; (with_reducible refine (plnlaw7_first.calls k  true _ A5.out).mono ?_); rintro e w8 ⟨rfl, hb⟩; have n0_ := Aside0.mk (below_step (by repeat (first | (with_reducible first | exact HB.out | apply below_alloc | apply pw_below_drewN | apply below_drew1) | exact HB.out)) hb); clear HB; have HB := n0_; clear n0_; (try clear hb); (try clear hb2); (try clear hk); (try clear hi)))
    repeat (go_quiet (first | (go_at_call 9; (with_reducible refine (plnlaw7_first.calls k  true _ A5.out).mono ?_); rintro e w8 ⟨rfl, hb⟩; have n0_ := Aside0.mk (below_step (by repeat (first | (with_reducible first | exact HB.out | apply below_alloc | apply pw_below_drewN | apply below_drew1) | exact HB.out)) hb); clear HB; have HB := n0_; clear n0_; (try clear hb); (try clear hb2); (try clear hk); (try clear hi))); go_upto_region 3 with (first | (go_at_call 9; (with_reducible refine (plnlaw7_first.calls k  true _ A5.out).mono ?_); rintro e w8 ⟨rfl, hb⟩; have n0_ := Aside0.mk (below_step (by repeat (first | (with_reducible first | exact HB.out | apply below_alloc | apply pw_below_drewN | apply below_drew1) | exact HB.out)) hb); clear HB; have HB := n0_; clear n0_; (try clear hb); (try clear hb2); (try clear hk); (try clear hi))))
    (try simp only [Act.put, List.setIfInBounds_toArray, List.set_cons_zero, List.set_cons_succ])
    go_cut [34] (fun v34 wc => ∃ (kq : Nat) (x34_6 : Bool), v34 = .bool x34_6 ∧ Aside0 (plnlaw7_LexTells.j0 kq a0 x34_6 = some r) ∧ Aside0 (kq ≤ k) ∧ Aside0 (Below w.heap.size w wc))
    case first =>
      have H := HC7.out
      clear HC7
      by_cases c9 : (a0.size : Int) > 1000
      · rw [if_pos c9] at H
        have c9b0 : decide (1000 < (a0.size : Int)) = true := decide_eq_true c9
        have c9b1 : decide (1000 < a0.size) = true := decide_eq_true (by omega)
        clear c9
        (first | rw [c9b0] | (simp only [i64_w, i32_w]; rw [c9b0]) | skip)
        have H' := Aside0.mk H
        clear H
        go_wp2
        repeat (go_quiet (fail); try go_wp2)
        go_meet
        case rel => exact ⟨_, (true), (by first | rfl | (simp; done) | (simp [*]; done)), H', ⟨by first | omega | exact Nat.le_refl _⟩, ⟨by repeat (first | (with_reducible first | exact HB.out | apply below_alloc | apply pw_below_drewN | apply below_drew1) | exact HB.out)⟩⟩
      · rw [if_neg c9] at H
        have c9b0 : decide (1000 < (a0.size : Int)) = false := decide_eq_false c9
        have c9b1 : decide (1000 < a0.size) = false := decide_eq_false (by omega)
        clear c9
        (first | rw [c9b0] | (simp only [i64_w, i32_w]; rw [c9b0]) | skip)
        have H' := Aside0.mk H
        clear H
        go_wp2
        repeat (go_quiet (fail); try go_wp2)
        go_meet
        case rel => exact ⟨_, (decide ((a1.size : Int) > 100)), (by first | rfl | (simp; done) | (simp [*]; done)), H', ⟨by first | omega | exact Nat.le_refl _⟩, ⟨by repeat (first | (with_reducible first | exact HB.out | apply below_alloc | apply pw_below_drewN | apply below_drew1) | exact HB.out)⟩⟩
    case rest =>
      clear HC7
      try clear p2
      try clear c3
      try clear c6
      try clear c9
      try clear c9b0
      try clear c9b1
      obtain ⟨kq, x34_6, rfl, HA, HJ6, HB⟩ := hcut
      cases kq with
      | zero => exact absurd HA.out (by simp [plnlaw7_LexTells.j0])
      | succ kj6 =>
        have H := HA.out
        clear HA
        simp only [plnlaw7_LexTells.j0] at H
        by_cases c10 : x34_6 = true
        · subst c10
          have H1 : ((plnlaw7_first.f kj6).bind fun t191 => (some t191)) = some r := by rw [if_pos rfl] at H; exact H
          clear H
          have H := H1
          clear H1
          replace H := Option.bind_eq_some_iff.mp H
          obtain ⟨t191, A110, H⟩ := H
          replace H : (some t191) = some r := H
          have A11 := Aside0.mk A110
          clear A110
          obtain rfl := Option.some.inj H
          go_wp2_with (first | (go_at_call 9; (with_reducible refine (plnlaw7_first.calls kj6  t191 _ A11.out).mono ?_); rintro e w12 ⟨rfl, hb⟩; have n0_ := Aside0.mk (below_step (by repeat (first | (with_reducible first | exact HB.out | apply below_alloc | apply pw_below_drewN | apply below_drew1) | exact HB.out)) hb); clear HB; have HB := n0_; clear n0_; (try clear hb); (try clear hb2); (try clear hk); (try clear hi)))
          repeat (go_quiet (first | (go_at_call 9; (with_reducible refine (plnlaw7_first.calls kj6  t191 _ A11.out).mono ?_); rintro e w12 ⟨rfl, hb⟩; have n0_ := Aside0.mk (below_step (by repeat (first | (with_reducible first | exact HB.out | apply below_alloc | apply pw_below_drewN | apply below_drew1) | exact HB.out)) hb); clear HB; have HB := n0_; clear n0_; (try clear hb); (try clear hb2); (try clear hk); (try clear hi))); try go_wp2_with (first | (go_at_call 9; (with_reducible refine (plnlaw7_first.calls kj6  t191 _ A11.out).mono ?_); rintro e w12 ⟨rfl, hb⟩; have n0_ := Aside0.mk (below_step (by repeat (first | (with_reducible first | exact HB.out | apply below_alloc | apply pw_below_drewN | apply below_drew1) | exact HB.out)) hb); clear HB; have HB := n0_; clear n0_; (try clear hb); (try clear hb2); (try clear hk); (try clear hi))))
          go_ret
          exact ⟨by first | rfl | (simp [errW_none, errW_some] <;> rfl) | (simp [*, errW_none, errW_some] <;> rfl), by repeat (first | (with_reducible first | exact HB.out | apply below_alloc | apply pw_below_drewN | apply below_drew1) | exact HB.out)⟩
        · replace c10 := Bool.eq_false_iff.mpr c10
          subst c10
          have H1 : ((lex_Lines.f kj6 a0).bind fun bt192 => ((plnref1_Lines.f kj6 a0).bind fun bt197 => (if bt192.2.1 = bt197.2.1 then (if bt192.2.2 = bt197.2.2 then (plnlaw7_LexTells.j1 kj6 bt192.1 bt197.1 ((bt192.1.length : Int) != (bt197.1.length : Int))) else (plnlaw7_LexTells.j1 kj6 bt192.1 bt197.1 true)) else (plnlaw7_LexTells.j1 kj6 bt192.1 bt197.1 true)))) = some r := by rw [if_neg (show ¬ (false = true) by decide)] at H; exact H
          clear H
          have H := H1
          clear H1
          replace H := Option.bind_eq_some_iff.mp H
          obtain ⟨⟨t192, t193, t194⟩, A130, H⟩ := H
          replace H : ((plnref1_Lines.f kj6 a0).bind fun bt197 => (if t193 = bt197.2.1 then (if t194 = bt197.2.2 then (plnlaw7_LexTells.j1 kj6 t192 bt197.1 ((t192.length : Int) != (bt197.1.length : Int))) else (plnlaw7_LexTells.j1 kj6 t192 bt197.1 true)) else (plnlaw7_LexTells.j1 kj6 t192 bt197.1 true))) = some r := H
          have A13 := Aside0.mk A130
          clear A130
          replace H := Option.bind_eq_some_iff.mp H
          obtain ⟨⟨t197, t198, t199⟩, A140, H⟩ := H
          replace H : (if t193 = t198 then (if t194 = t199 then (plnlaw7_LexTells.j1 kj6 t192 t197 ((t192.length : Int) != (t197.length : Int))) else (plnlaw7_LexTells.j1 kj6 t192 t197 true)) else (plnlaw7_LexTells.j1 kj6 t192 t197 true)) = some r := H
          have A14 := Aside0.mk A140
          clear A140
          have HC15 := Aside0.mk H
          clear H
          go_upto_region 7 with (first | (go_at_call 10; (with_reducible refine (lex_Lines.calls kj6 a0 t192 t193 t194 _ A13.out).mono ?_); rintro e w16 ⟨v195, rfl, ho0, hb⟩; have n0_ := Aside0.mk (Kd.S_lower ho0 (below_size (by repeat (first | (with_reducible first | exact HB.out | apply below_alloc | apply pw_below_drewN | apply below_drew1) | exact HB.out)))); have n1_ := Aside0.mk (below_step (by repeat (first | (with_reducible first | exact HB.out | apply below_alloc | apply pw_below_drewN | apply below_drew1) | exact HB.out)) hb); clear HB; have HO196 := n0_; have HB := n1_; clear n0_ n1_; (try clear hb); (try clear hb2); (try clear hk); (try clear hi); (try clear ho0)) | (go_at_call 11; (with_reducible refine (plnref1_Lines.calls kj6 a0 t197 t198 t199 _ A14.out).mono ?_); rintro e w17 ⟨v200, rfl, ho0, hb⟩; have n0_ := Aside0.mk (Kd.S_below (by (with_reducible repeat (first | apply Kd.S_alloc | apply Kd.S_drewN | apply Kd.S_drew)); exact HO196.out) hb); have n1_ := Aside0.mk (Kd.S_lower ho0 (below_size (by repeat (first | (with_reducible first | exact HB.out | apply below_alloc | apply pw_below_drewN | apply below_drew1) | exact HB.out)))); have n2_ := Aside0.mk (below_step (by repeat (first | (with_reducible first | exact HB.out | apply below_alloc | apply pw_below_drewN | apply below_drew1) | exact HB.out)) hb); clear HO196; clear HB; have HO196 := n0_; have HO201 := n1_; have HB := n2_; clear n0_ n1_ n2_; (try clear hb); (try clear hb2); (try clear hk); (try clear hi); (try clear ho0)))
          repeat (go_quiet (first | (go_at_call 10; (with_reducible refine (lex_Lines.calls kj6 a0 t192 t193 t194 _ A13.out).mono ?_); rintro e w16 ⟨v195, rfl, ho0, hb⟩; have n0_ := Aside0.mk (Kd.S_lower ho0 (below_size (by repeat (first | (with_reducible first | exact HB.out | apply below_alloc | apply pw_below_drewN | apply below_drew1) | exact HB.out)))); have n1_ := Aside0.mk (below_step (by repeat (first | (with_reducible first | exact HB.out | apply below_alloc | apply pw_below_drewN | apply below_drew1) | exact HB.out)) hb); clear HB; have HO196 := n0_; have HB := n1_; clear n0_ n1_; (try clear hb); (try clear hb2); (try clear hk); (try clear hi); (try clear ho0)) | (go_at_call 11; (with_reducible refine (plnref1_Lines.calls kj6 a0 t197 t198 t199 _ A14.out).mono ?_); rintro e w17 ⟨v200, rfl, ho0, hb⟩; have n0_ := Aside0.mk (Kd.S_below (by (with_reducible repeat (first | apply Kd.S_alloc | apply Kd.S_drewN | apply Kd.S_drew)); exact HO196.out) hb); have n1_ := Aside0.mk (Kd.S_lower ho0 (below_size (by repeat (first | (with_reducible first | exact HB.out | apply below_alloc | apply pw_below_drewN | apply below_drew1) | exact HB.out)))); have n2_ := Aside0.mk (below_step (by repeat (first | (with_reducible first | exact HB.out | apply below_alloc | apply pw_below_drewN | apply below_drew1) | exact HB.out)) hb); clear HO196; clear HB; have HO196 := n0_; have HO201 := n1_; have HB := n2_; clear n0_ n1_ n2_; (try clear hb); (try clear hb2); (try clear hk); (try clear hi); (try clear ho0))); go_upto_region 7 with (first | (go_at_call 10; (with_reducible refine (lex_Lines.calls kj6 a0 t192 t193 t194 _ A13.out).mono ?_); rintro e w16 ⟨v195, rfl, ho0, hb⟩; have n0_ := Aside0.mk (Kd.S_lower ho0 (below_size (by repeat (first | (with_reducible first | exact HB.out | apply below_alloc | apply pw_below_drewN | apply below_drew1) | exact HB.out)))); have n1_ := Aside0.mk (below_step (by repeat (first | (with_reducible first | exact HB.out | apply below_alloc | apply pw_below_drewN | apply below_drew1) | exact HB.out)) hb); clear HB; have HO196 := n0_; have HB := n1_; clear n0_ n1_; (try clear hb); (try clear hb2); (try clear hk); (try clear hi); (try clear ho0)) | (go_at_call 11; (with_reducible refine (plnref1_Lines.calls kj6 a0 t197 t198 t199 _ A14.out).mono ?_); rintro e w17 ⟨v200, rfl, ho0, hb⟩; have n0_ := Aside0.mk (Kd.S_below (by (with_reducible repeat (first | apply Kd.S_alloc | apply Kd.S_drewN | apply Kd.S_drew)); exact HO196.out) hb); have n1_ := Aside0.mk (Kd.S_lower ho0 (below_size (by repeat (first | (with_reducible first | exact HB.out | apply below_alloc | apply pw_below_drewN | apply below_drew1) | exact HB.out)))); have n2_ := Aside0.mk (below_step (by repeat (first | (with_reducible first | exact HB.out | apply below_alloc | apply pw_below_drewN | apply below_drew1) | exact HB.out)) hb); clear HO196; clear HB; have HO196 := n0_; have HO201 := n1_; have HB := n2_; clear n0_ n1_ n2_; (try clear hb); (try clear hb2); (try clear hk); (try clear hi); (try clear ho0))))
          (try simp only [Act.put, List.setIfInBounds_toArray, List.set_cons_zero, List.set_cons_succ])
          go_cut [62] (fun v62 wc => ∃ (kq : Nat) (x62_14 : Bool), v62 = .bool x62_14 ∧ Aside0 (plnlaw7_LexTells.j1 kq t192 t197 x62_14 = some r) ∧ Aside0 (kq ≤ kj6) ∧ Aside0 (Kd.S k32 32 wc w.heap.size (fun _ => True) v195 t192) ∧ Aside0 (Kd.S (Kd.slice 36 k36) 33 wc w.heap.size (fun _ => True) v200 t197) ∧ Aside0 (Below w.heap.size w wc))
          case first =>
            have H := HC15.out
            clear HC15
            by_cases c18 : t193 = t198
            · rw [if_pos c18] at H
              have c18b0 : (t193 == t198) = true := beq_iff_eq.mpr c18
              have c18b1 : (t193 != t198) = false := bne_eq_false_iff_eq.mpr c18
              clear c18
              (first | rw [c18b0] | (simp only [i64_w, i32_w]; rw [c18b0]) | skip)
              by_cases c19 : t194 = t199
              · rw [if_pos c19] at H
                have c19b0 : (t194 == t199) = true := beq_iff_eq.mpr c19
                have c19b1 : (t194 != t199) = false := bne_eq_false_iff_eq.mpr c19
                clear c19
                have H' := Aside0.mk H
                clear H
                obtain ⟨Ao20, co20, eo20⟩ := Kd.S_slice HO196.out
                subst eo20
                obtain ⟨Ao21, co21, eo21⟩ := Kd.S_slice HO201.out
                subst eo21
                go_wp2
                repeat (go_quiet (fail); try go_wp2)
                go_meet
                case rel => exact ⟨_, (((t192.length : Int) != (t197.length : Int))), (by first | rfl | (simp; done) | (simp [*]; done)), H', ⟨by have := HJ6.out; first | omega | exact Nat.le_refl _⟩, ⟨by (with_reducible repeat (first | apply Kd.S_alloc | apply Kd.S_drewN | apply Kd.S_drew)); exact HO196.out⟩, ⟨by (with_reducible repeat (first | apply Kd.S_alloc | apply Kd.S_drewN | apply Kd.S_drew)); exact HO201.out⟩, ⟨by repeat (first | (with_reducible first | exact HB.out | apply below_alloc | apply pw_below_drewN | apply below_drew1) | exact HB.out)⟩⟩
              · rw [if_neg c19] at H
                have c19b0 : (t194 == t199) = false := beq_eq_false_iff_ne.mpr c19
                have c19b1 : (t194 != t199) = true := bne_iff_ne.mpr c19
                have H' := Aside0.mk H
                clear H
                go_wp2
                repeat (go_quiet (fail); try go_wp2)
                go_meet
                case rel => exact ⟨_, (true), (by first | rfl | (simp; done) | (simp [*]; done)), H', ⟨by have := HJ6.out; first | omega | exact Nat.le_refl _⟩, ⟨by (with_reducible repeat (first | apply Kd.S_alloc | apply Kd.S_drewN | apply Kd.S_drew)); exact HO196.out⟩, ⟨by (with_reducible repeat (first | apply Kd.S_alloc | apply Kd.S_drewN | apply Kd.S_drew)); exact HO201.out⟩, ⟨by repeat (first | (with_reducible first | exact HB.out | apply below_alloc | apply pw_below_drewN | apply below_drew1) | exact HB.out)⟩⟩
            · rw [if_neg c18] at H
              have c18b0 : (t193 == t198) = false := beq_eq_false_iff_ne.mpr c18
              have c18b1 : (t193 != t198) = true := bne_iff_ne.mpr c18
              (first | rw [c18b0] | (simp only [i64_w, i32_w]; rw [c18b0]) | skip)
              have H' := Aside0.mk H
              clear H
              go_wp2
              repeat (go_quiet (fail); try go_wp2)
              go_meet
              case rel => exact ⟨_, (true), (by first | rfl | (simp; done) | (simp [*]; done)), H', ⟨by have := HJ6.out; first | omega | exact Nat.le_refl _⟩, ⟨by (with_reducible repeat (first | apply Kd.S_alloc | apply Kd.S_drewN | apply Kd.S_drew)); exact HO196.out⟩, ⟨by (with_reducible repeat (first | apply Kd.S_alloc | apply Kd.S_drewN | apply Kd.S_drew)); exact HO201.out⟩, ⟨by repeat (first | (with_reducible first | exact HB.out | apply below_alloc | apply pw_below_drewN | apply below_drew1) | exact HB.out)⟩⟩
          case rest =>
            clear HC15
            try clear c1
            try clear p2
            try clear c3
            try clear c6
            try clear c9
            try clear c9b0
            try clear c9b1
            try clear c10
            try clear c18
            try clear c18b0
            try clear c18b1
            try clear c19
            try clear c19b0
            try clear c19b1
            try clear p2
            obtain ⟨kq, x62_14, rfl, HA, HJ14, HO_9, HO_12, HB⟩ := hcut
            cases kq with
            | zero => exact absurd HA.out (by simp [plnlaw7_LexTells.j1])
            | succ kj14 =>
              have H := HA.out
              clear HA
              simp only [plnlaw7_LexTells.j1] at H
              by_cases c22 : x62_14 = true
              · subst c22
                have H1 : (some false) = some r := by rw [if_pos rfl] at H; exact H
                clear H
                have H := H1
                clear H1
                obtain rfl := Option.some.inj H
                go_wp2
                repeat (go_quiet (fail); try go_wp2)
                go_ret
                exact ⟨by first | rfl | (simp [errW_none, errW_some] <;> rfl) | (simp [*, errW_none, errW_some] <;> rfl), by repeat (first | (with_reducible first | exact HB.out | apply below_alloc | apply pw_below_drewN | apply below_drew1) | exact HB.out)⟩
              · replace c22 := Bool.eq_false_iff.mpr c22
                subst c22
                have H1 : (plnlaw7_LexTells.l0 kj14 t192 t197 0) = some r := by rw [if_neg (show ¬ (false = true) by decide)] at H; exact H
                clear H
                have H := H1
                clear H1
                have H' := Aside0.mk H
                clear H
                go_wp2
                repeat (go_quiet (fail); try go_wp2)
                go_loopg [15] kj14 (fun kq v15 w' => ∃ (x15_3 : Int), v15 = .int .i64 x15_3 ∧ Aside0 (plnlaw7_LexTells.l0 kq t192 t197 x15_3 = some r) ∧ Aside0 (kq ≤ kj14) ∧ Aside0 (Kd.S k32 32 w' w.heap.size (fun _ => True) v195 t192) ∧ Aside0 (Kd.S (Kd.slice 36 k36) 33 w' w.heap.size (fun _ => True) v200 t197) ∧ Aside0 (Below w.heap.size w w'))
                case atStart => exact ⟨(0), (by first | rfl | (simp; done) | (simp [*]; done)), H', ⟨Nat.le_refl _⟩, ⟨by (with_reducible repeat (first | apply Kd.S_alloc | apply Kd.S_drewN | apply Kd.S_drew)); exact HO_9.out⟩, ⟨by (with_reducible repeat (first | apply Kd.S_alloc | apply Kd.S_drewN | apply Kd.S_drew)); exact HO_12.out⟩, ⟨by repeat (first | (with_reducible first | exact HB.out | apply below_alloc | apply pw_below_drewN | apply below_drew1) | exact HB.out)⟩⟩
                case round =>
                  clear H'
                  try clear c1
                  try clear c2
                  try clear p2
                  try clear c3
                  try clear c6
                  try clear c9
                  try clear c9b0
                  try clear c9b1
                  try clear c10
                  try clear c18
                  try clear c18b0
                  try clear c18b1
                  try clear c19
                  try clear c19b0
                  try clear c19b1
                  try clear c22
                  try clear p2
                  obtain ⟨x15_3, rfl, HA, HK3, HO_9, HO_12, HB⟩ := hrel
                  cases gk with
                  | zero => exact absurd HA.out (by simp [plnlaw7_LexTells.l0])
                  | succ k3 =>
                    have H := HA.out
                    clear HA
                    simp only [plnlaw7_LexTells.l0] at H
                    by_cases c23 : x15_3 < (t192.length : Int)
                    · rw [if_pos c23] at H
                      have c23b0 : decide (x15_3 < (t192.length : Int)) = true := decide_eq_true c23
                      clear c23
                      by_cases c24 : 0 ≤ x15_3
                      · rw [if_pos c24] at H
                        have c24b0 : decide (0 ≤ x15_3) = true := decide_eq_true c24
                        clear c24
                        by_cases c25 : x15_3 < (t197.length : Int)
                        · rw [if_pos c25] at H
                          have c25b0 : decide (x15_3 < (t197.length : Int)) = true := decide_eq_true c25
                          clear c25
                          by_cases c26 : (((rd_T32 t192 x15_3).f0).length : Int) = ((rd_L6 t197 x15_3).length : Int)
                          · rw [if_pos c26] at H
                            have c26b0 : ((((rd_T32 t192 x15_3).f0).length : Int) == ((rd_L6 t197 x15_3).length : Int)) = true := beq_iff_eq.mpr c26
                            have c26b1 : ((((rd_T32 t192 x15_3).f0).length : Int) != ((rd_L6 t197 x15_3).length : Int)) = false := bne_eq_false_iff_eq.mpr c26
                            have c26b2 : (((rd_T32 t192 x15_3).f0).length == (rd_L6 t197 x15_3).length) = true := by first | simpa using c26 | (simp at c26 ⊢; omega)
                            clear c26
                            have H' := Aside0.mk H
                            clear H
                            obtain ⟨Ao27, co27, eo27⟩ := Kd.S_slice HO_9.out
                            subst eo27
                            have p202 : 0 ≤ (x15_3 : Int) := of_decide_eq_true (by first | (with_reducible assumption) | assumption)
                            have q202 : x15_3 < (t192.length : Int) := of_decide_eq_true (by first | (with_reducible assumption) | assumption)
                            obtain ⟨ad202, A202_0, c202_0, e202, hx202_0, hl202_0, hi202_0⟩ := at_T32 (Kd.S_reads' HO_9.out).2.2 x15_3 p202 q202
                            cases e202
                            obtain ⟨ce202, hce202, hMe202, hcc202⟩ := Kd.S_get HO_9.out z32 x15_3 p202 (by first | exact q202 | exact of_decide_eq_true (by first | (with_reducible assumption) | assumption) | (have e_ := (Kd.S_reads' HO_9.out).1; omega))
                            obtain ⟨ve202_0, rfl, ge202_0⟩ := k49_openM hMe202
                            have hv202_0 := hcc202 0 _ rfl
                            rw [Nat.add_zero, show (k32).sz = 1 from rfl, Nat.mul_one] at hv202_0
                            replace hv202_0 := Option.some.inj (hv202_0.symm.trans hx202_0)
                            rw [hv202_0] at ge202_0
                            have HL202_0 := Aside0.mk (show Kd.R k35 35 _ _ _ _ ((rd_T32 t192 x15_3).f0) from ge202_0)
                            clear hv202_0 ge202_0
                            clear hcc202 hce202
                            have HR202_0 := Aside0.mk hi202_0
                            have HC202_0 := Aside0.mk hl202_0
                            clear hi202_0 hl202_0
                            replace p202 := eq_true p202
                            replace q202 := eq_true q202
                            obtain ⟨Ao28, co28, eo28⟩ := Kd.S_slice HO_12.out
                            subst eo28
                            have p203 : 0 ≤ (x15_3 : Int) := of_decide_eq_true (by first | (with_reducible assumption) | assumption)
                            have q203 : x15_3 < (t197.length : Int) := of_decide_eq_true (by first | (with_reducible assumption) | assumption)
                            obtain ⟨ad203, A203_0, c203_0, e203, hx203_0, hl203_0, hi203_0⟩ := at_L6 (Kd.S_reads' HO_12.out).2.2 x15_3 p203 q203
                            cases e203
                            obtain ⟨ce203, hce203, hMe203, hcc203⟩ := Kd.S_get HO_12.out [] x15_3 p203 (by first | exact q203 | exact of_decide_eq_true (by first | (with_reducible assumption) | assumption) | (have e_ := (Kd.S_reads' HO_12.out).1; omega))
                            obtain ⟨ve203_0, rfl, ge203_0⟩ := hMe203
                            have hv203_0 := hcc203 0 _ rfl
                            rw [Nat.add_zero, show ((Kd.slice 36 k36)).sz = 1 from rfl, Nat.mul_one] at hv203_0
                            replace hv203_0 := Option.some.inj (hv203_0.symm.trans hx203_0)
                            rw [hv203_0] at ge203_0
                            have HL203_0 := Aside0.mk (show Kd.R k36 36 _ _ _ _ (rd_L6 t197 x15_3) from ge203_0)
                            clear hv203_0 ge203_0
                            clear hcc203 hce203
                            have HR203_0 := Aside0.mk hi203_0
                            have HC203_0 := Aside0.mk hl203_0
                            clear hi203_0 hl203_0
                            replace p203 := eq_true p203
                            replace q203 := eq_true q203
                            go_wp2
                            repeat (go_quiet (fail); try go_wp2)
                            go_loopg [16] k3 (fun kq v16 w' => ∃ (x16_4 : Int), v16 = .int .i64 x16_4 ∧ Aside0 (plnlaw7_LexTells.l1 kq t192 t197 x15_3 x16_4 = some r) ∧ Aside0 (kq ≤ k3) ∧ Aside0 (Kd.S k32 32 w' w.heap.size (fun _ => True) (.slice (some ad202) t192.length co27) t192) ∧ Aside0 (Kd.S (Kd.slice 36 k36) 33 w' w.heap.size (fun _ => True) (.slice (some ad203) t197.length co28) t197) ∧ Aside0 (Kd.C k35 w' A202_0 ((rd_T32 t192 x15_3).f0).length ((rd_T32 t192 x15_3).f0)) ∧ Aside0 (Kd.C k36 w' A203_0 (rd_L6 t197 x15_3).length (rd_L6 t197 x15_3)) ∧ Aside0 (Below w.heap.size w w'))
                            case atStart => exact ⟨(0), (by first | rfl | (simp; done) | (simp [*]; done)), H', ⟨Nat.le_refl _⟩, ⟨by (with_reducible repeat (first | apply Kd.S_alloc | apply Kd.S_drewN | apply Kd.S_drew)); exact HO_9.out⟩, ⟨by (with_reducible repeat (first | apply Kd.S_alloc | apply Kd.S_drewN | apply Kd.S_drew)); exact HO_12.out⟩, ⟨by repeat (first | (with_reducible exact HR202_0.out) | (with_reducible refine Kd.C_alloc ?_ _) | (with_reducible refine Kd.C_drewN ?_ _) | (with_reducible refine Kd.C_drew ?_) | exact HR202_0.out)⟩, ⟨by repeat (first | (with_reducible exact HR203_0.out) | (with_reducible refine Kd.C_alloc ?_ _) | (with_reducible refine Kd.C_drewN ?_ _) | (with_reducible refine Kd.C_drew ?_) | exact HR203_0.out)⟩, ⟨by repeat (first | (with_reducible first | exact HB.out | apply below_alloc | apply pw_below_drewN | apply below_drew1) | exact HB.out)⟩⟩
                            case round =>
                              clear H'
                              try clear c1
                              try clear c2
                              try clear p2
                              try clear q2
                              try clear hx2
                              try clear c3
                              try clear c6
                              try clear c9
                              try clear c9b0
                              try clear c9b1
                              try clear c10
                              try clear c18
                              try clear c18b0
                              try clear c18b1
                              try clear c19
                              try clear c19b0
                              try clear c19b1
                              try clear c20
                              try clear p20
                              try clear q20
                              try clear hx20
                              try clear c22
                              try clear c23
                              try clear c23b0
                              try clear c24
                              try clear c24b0
                              try clear c25
                              try clear c25b0
                              try clear c26
                              try clear c26b0
                              try clear c26b1
                              try clear c26b2
                              try clear hx202_0
                              try clear hx203_0
                              try clear p2
                              try clear p202
                              try clear p203
                              try clear q202
                              try clear q203
                              obtain ⟨x16_4, rfl, HA, HK4, HO_9, HO_12, HR202_0, HR203_0, HB⟩ := hrel
                              cases gk with
                              | zero => exact absurd HA.out (by simp [plnlaw7_LexTells.l1])
                              | succ k4 =>
                                have H := HA.out
                                clear HA
                                simp only [plnlaw7_LexTells.l1] at H
                                by_cases c29 : 0 ≤ x15_3
                                · rw [if_pos c29] at H
                                  have c29b0 : decide (0 ≤ x15_3) = true := decide_eq_true c29
                                  clear c29
                                  by_cases c30 : x15_3 < (t197.length : Int)
                                  · rw [if_pos c30] at H
                                    have c30b0 : decide (x15_3 < (t197.length : Int)) = true := decide_eq_true c30
                                    clear c30
                                    by_cases c31 : x16_4 < ((rd_L6 t197 x15_3).length : Int)
                                    · rw [if_pos c31] at H
                                      have c31b0 : decide (x16_4 < ((rd_L6 t197 x15_3).length : Int)) = true := decide_eq_true c31
                                      clear c31
                                      by_cases c32 : x15_3 < (t192.length : Int)
                                      · rw [if_pos c32] at H
                                        have c32b0 : decide (x15_3 < (t192.length : Int)) = true := decide_eq_true c32
                                        clear c32
                                        by_cases c33 : 0 ≤ x16_4
                                        · rw [if_pos c33] at H
                                          have c33b0 : decide (0 ≤ x16_4) = true := decide_eq_true c33
                                          clear c33
                                          by_cases c34 : x16_4 < (((rd_T32 t192 x15_3).f0).length : Int)
                                          · rw [if_pos c34] at H
                                            have c34b0 : decide (x16_4 < (((rd_T32 t192 x15_3).f0).length : Int)) = true := decide_eq_true c34
                                            clear c34
                                            by_cases c35 : ((rd_T35 ((rd_T32 t192 x15_3).f0) x16_4).f0).toList = ((rd_T36 (rd_L6 t197 x15_3) x16_4).f0).toList
                                            · rw [if_pos c35] at H
                                              have c35b0 : (((rd_T35 ((rd_T32 t192 x15_3).f0) x16_4).f0).toList == ((rd_T36 (rd_L6 t197 x15_3) x16_4).f0).toList) = true := beq_iff_eq.mpr c35
                                              have c35b1 : (((rd_T35 ((rd_T32 t192 x15_3).f0) x16_4).f0).toList != ((rd_T36 (rd_L6 t197 x15_3) x16_4).f0).toList) = false := bne_eq_false_iff_eq.mpr c35
                                              clear c35
                                              by_cases c36 : ((rd_T35 ((rd_T32 t192 x15_3).f0) x16_4).f1) = ((rd_T36 (rd_L6 t197 x15_3) x16_4).f1)
                                              · rw [if_pos c36] at H
                                                have c36b0 : (((rd_T35 ((rd_T32 t192 x15_3).f0) x16_4).f1) == ((rd_T36 (rd_L6 t197 x15_3) x16_4).f1)) = true := beq_iff_eq.mpr c36
                                                have c36b1 : (((rd_T35 ((rd_T32 t192 x15_3).f0) x16_4).f1) != ((rd_T36 (rd_L6 t197 x15_3) x16_4).f1)) = false := bne_eq_false_iff_eq.mpr c36
                                                clear c36
                                                have H' := Aside0.mk H
                                                clear H
                                                have p204 : 0 ≤ (x15_3 : Int) := of_decide_eq_true (by first | (with_reducible assumption) | assumption)
                                                have q204 : x15_3 < (t197.length : Int) := of_decide_eq_true (by first | (with_reducible assumption) | assumption)
                                                obtain ⟨ad204, A204_0, c204_0, e204, hx204_0, hl204_0, hi204_0⟩ := at_L6 (Kd.S_reads' HO_12.out).2.2 x15_3 p204 q204
                                                obtain rfl : ad203 = ad204 := (by injection e204)
                                                obtain ⟨ce204, hce204, hMe204, hcc204⟩ := Kd.S_get HO_12.out [] x15_3 p204 (by first | exact q204 | exact of_decide_eq_true (by first | (with_reducible assumption) | assumption) | (have e_ := (Kd.S_reads' HO_12.out).1; omega))
                                                obtain ⟨ve204_0, rfl, ge204_0⟩ := hMe204
                                                have hv204_0 := hcc204 0 _ rfl
                                                rw [Nat.add_zero, show ((Kd.slice 36 k36)).sz = 1 from rfl, Nat.mul_one] at hv204_0
                                                replace hv204_0 := Option.some.inj (hv204_0.symm.trans hx204_0)
                                                rw [hv204_0] at ge204_0
                                                have HL204_0 := Aside0.mk (show Kd.R k36 36 _ _ _ _ (rd_L6 t197 x15_3) from ge204_0)
                                                clear hv204_0 ge204_0
                                                clear hcc204 hce204
                                                have HR204_0 := Aside0.mk hi204_0
                                                have HC204_0 := Aside0.mk hl204_0
                                                clear hi204_0 hl204_0
                                                replace p204 := eq_true p204
                                                replace q204 := eq_true q204
                                                have p205 : 0 ≤ (x15_3 : Int) := of_decide_eq_true (by first | (with_reducible assumption) | assumption)
                                                have q205 : x15_3 < (t192.length : Int) := of_decide_eq_true (by first | (with_reducible assumption) | assumption)
                                                obtain ⟨ad205, A205_0, c205_0, e205, hx205_0, hl205_0, hi205_0⟩ := at_T32 (Kd.S_reads' HO_9.out).2.2 x15_3 p205 q205
                                                obtain rfl : ad202 = ad205 := (by injection e205)
                                                obtain ⟨ce205, hce205, hMe205, hcc205⟩ := Kd.S_get HO_9.out z32 x15_3 p205 (by first | exact q205 | exact of_decide_eq_true (by first | (with_reducible assumption) | assumption) | (have e_ := (Kd.S_reads' HO_9.out).1; omega))
                                                obtain ⟨ve205_0, rfl, ge205_0⟩ := k49_openM hMe205
                                                have hv205_0 := hcc205 0 _ rfl
                                                rw [Nat.add_zero, show (k32).sz = 1 from rfl, Nat.mul_one] at hv205_0
                                                replace hv205_0 := Option.some.inj (hv205_0.symm.trans hx205_0)
                                                rw [hv205_0] at ge205_0
                                                have HL205_0 := Aside0.mk (show Kd.R k35 35 _ _ _ _ ((rd_T32 t192 x15_3).f0) from ge205_0)
                                                clear hv205_0 ge205_0
                                                clear hcc205 hce205
                                                have HR205_0 := Aside0.mk hi205_0
                                                have HC205_0 := Aside0.mk hl205_0
                                                clear hi205_0 hl205_0
                                                replace p205 := eq_true p205
                                                replace q205 := eq_true q205
                                                have p206 : 0 ≤ (x16_4 : Int) := of_decide_eq_true (by first | (with_reducible assumption) | assumption)
                                                have q206 : x16_4 < (((rd_T32 t192 x15_3).f0).length : Int) := of_decide_eq_true (by first | (with_reducible assumption) | assumption)
                                                obtain ⟨ad206, e206, hx206_0, hx206_1⟩ := at_T35 (by repeat (first | (with_reducible exact HR205_0.out) | (with_reducible refine Kd.C_alloc ?_ _) | (with_reducible refine Kd.C_drewN ?_ _) | (with_reducible refine Kd.C_drew ?_) | exact HR205_0.out)) x16_4 p206 q206
                                                cases e206
                                                replace p206 := eq_true p206
                                                replace q206 := eq_true q206
                                                have p207 : 0 ≤ (x15_3 : Int) := of_decide_eq_true (by first | (with_reducible assumption) | assumption)
                                                have q207 : x15_3 < (t197.length : Int) := of_decide_eq_true (by first | (with_reducible assumption) | assumption)
                                                obtain ⟨ad207, A207_0, c207_0, e207, hx207_0, hl207_0, hi207_0⟩ := at_L6 (Kd.S_reads' HO_12.out).2.2 x15_3 p207 q207
                                                obtain rfl : ad203 = ad207 := (by injection e207)
                                                obtain ⟨ce207, hce207, hMe207, hcc207⟩ := Kd.S_get HO_12.out [] x15_3 p207 (by first | exact q207 | exact of_decide_eq_true (by first | (with_reducible assumption) | assumption) | (have e_ := (Kd.S_reads' HO_12.out).1; omega))
                                                obtain ⟨ve207_0, rfl, ge207_0⟩ := hMe207
                                                have hv207_0 := hcc207 0 _ rfl
                                                rw [Nat.add_zero, show ((Kd.slice 36 k36)).sz = 1 from rfl, Nat.mul_one] at hv207_0
                                                replace hv207_0 := Option.some.inj (hv207_0.symm.trans hx207_0)
                                                rw [hv207_0] at ge207_0
                                                have HL207_0 := Aside0.mk (show Kd.R k36 36 _ _ _ _ (rd_L6 t197 x15_3) from ge207_0)
                                                clear hv207_0 ge207_0
                                                clear hcc207 hce207
                                                have HR207_0 := Aside0.mk hi207_0
                                                have HC207_0 := Aside0.mk hl207_0
                                                clear hi207_0 hl207_0
                                                replace p207 := eq_true p207
                                                replace q207 := eq_true q207
                                                have ea_ := Option.some.inj (hx204_0.symm.trans hx207_0)
                                                injection ea_ with ea_ en_ ec_
                                                subst ea_
                                                subst ec_
                                                clear en_
                                                have p208 : 0 ≤ (x16_4 : Int) := of_decide_eq_true (by first | (with_reducible assumption) | assumption)
                                                have q208 : x16_4 < ((rd_L6 t197 x15_3).length : Int) := of_decide_eq_true (by first | (with_reducible assumption) | assumption)
                                                obtain ⟨ad208, e208, hx208_0, hx208_1⟩ := at_T36 (by repeat (first | (with_reducible exact HR207_0.out) | (with_reducible refine Kd.C_alloc ?_ _) | (with_reducible refine Kd.C_drewN ?_ _) | (with_reducible refine Kd.C_drew ?_) | exact HR207_0.out)) x16_4 p208 q208
                                                cases e208
                                                replace p208 := eq_true p208
                                                replace q208 := eq_true q208
                                                have p209 : 0 ≤ (x15_3 : Int) := of_decide_eq_true (by first | (with_reducible assumption) | assumption)
                                                have q209 : x15_3 < (t192.length : Int) := of_decide_eq_true (by first | (with_reducible assumption) | assumption)
                                                obtain ⟨ad209, A209_0, c209_0, e209, hx209_0, hl209_0, hi209_0⟩ := at_T32 (Kd.S_reads' HO_9.out).2.2 x15_3 p209 q209
                                                obtain rfl : ad202 = ad209 := (by injection e209)
                                                obtain ⟨ce209, hce209, hMe209, hcc209⟩ := Kd.S_get HO_9.out z32 x15_3 p209 (by first | exact q209 | exact of_decide_eq_true (by first | (with_reducible assumption) | assumption) | (have e_ := (Kd.S_reads' HO_9.out).1; omega))
                                                obtain ⟨ve209_0, rfl, ge209_0⟩ := k49_openM hMe209
                                                have hv209_0 := hcc209 0 _ rfl
                                                rw [Nat.add_zero, show (k32).sz = 1 from rfl, Nat.mul_one] at hv209_0
                                                replace hv209_0 := Option.some.inj (hv209_0.symm.trans hx209_0)
                                                rw [hv209_0] at ge209_0
                                                have HL209_0 := Aside0.mk (show Kd.R k35 35 _ _ _ _ ((rd_T32 t192 x15_3).f0) from ge209_0)
                                                clear hv209_0 ge209_0
                                                clear hcc209 hce209
                                                have HR209_0 := Aside0.mk hi209_0
                                                have HC209_0 := Aside0.mk hl209_0
                                                clear hi209_0 hl209_0
                                                replace p209 := eq_true p209
                                                replace q209 := eq_true q209
                                                have ea_ := Option.some.inj (hx205_0.symm.trans hx209_0)
                                                injection ea_ with ea_ en_ ec_
                                                subst ea_
                                                subst ec_
                                                clear en_
                                                have p210 : 0 ≤ (x16_4 : Int) := of_decide_eq_true (by first | (with_reducible assumption) | assumption)
                                                have q210 : x16_4 < (((rd_T32 t192 x15_3).f0).length : Int) := of_decide_eq_true (by first | (with_reducible assumption) | assumption)
                                                obtain ⟨ad210, e210, hx210_0, hx210_1⟩ := at_T35 (by repeat (first | (with_reducible exact HR209_0.out) | (with_reducible refine Kd.C_alloc ?_ _) | (with_reducible refine Kd.C_drewN ?_ _) | (with_reducible refine Kd.C_drew ?_) | exact HR209_0.out)) x16_4 p210 q210
                                                cases e210
                                                replace p210 := eq_true p210
                                                replace q210 := eq_true q210
                                                have p211 : 0 ≤ (x15_3 : Int) := of_decide_eq_true (by first | (with_reducible assumption) | assumption)
                                                have q211 : x15_3 < (t197.length : Int) := of_decide_eq_true (by first | (with_reducible assumption) | assumption)
                                                obtain ⟨ad211, A211_0, c211_0, e211, hx211_0, hl211_0, hi211_0⟩ := at_L6 (Kd.S_reads' HO_12.out).2.2 x15_3 p211 q211
                                                obtain rfl : ad203 = ad211 := (by injection e211)
                                                obtain ⟨ce211, hce211, hMe211, hcc211⟩ := Kd.S_get HO_12.out [] x15_3 p211 (by first | exact q211 | exact of_decide_eq_true (by first | (with_reducible assumption) | assumption) | (have e_ := (Kd.S_reads' HO_12.out).1; omega))
                                                obtain ⟨ve211_0, rfl, ge211_0⟩ := hMe211
                                                have hv211_0 := hcc211 0 _ rfl
                                                rw [Nat.add_zero, show ((Kd.slice 36 k36)).sz = 1 from rfl, Nat.mul_one] at hv211_0
                                                replace hv211_0 := Option.some.inj (hv211_0.symm.trans hx211_0)
                                                rw [hv211_0] at ge211_0
                                                have HL211_0 := Aside0.mk (show Kd.R k36 36 _ _ _ _ (rd_L6 t197 x15_3) from ge211_0)
                                                clear hv211_0 ge211_0
                                                clear hcc211 hce211
                                                have HR211_0 := Aside0.mk hi211_0
                                                have HC211_0 := Aside0.mk hl211_0
                                                clear hi211_0 hl211_0
                                                replace p211 := eq_true p211
                                                replace q211 := eq_true q211
                                                have ea_ := Option.some.inj (hx204_0.symm.trans hx211_0)
                                                injection ea_ with ea_ en_ ec_
                                                subst ea_
                                                subst ec_
                                                clear en_
                                                have p212 : 0 ≤ (x16_4 : Int) := of_decide_eq_true (by first | (with_reducible assumption) | assumption)
                                                have q212 : x16_4 < ((rd_L6 t197 x15_3).length : Int) := of_decide_eq_true (by first | (with_reducible assumption) | assumption)
                                                obtain ⟨ad212, e212, hx212_0, hx212_1⟩ := at_T36 (by repeat (first | (with_reducible exact HR211_0.out) | (with_reducible refine Kd.C_alloc ?_ _) | (with_reducible refine Kd.C_drewN ?_ _) | (with_reducible refine Kd.C_drew ?_) | exact HR211_0.out)) x16_4 p212 q212
                                                cases e212
                                                replace p212 := eq_true p212
                                                replace q212 := eq_true q212
                                                go_wp2
                                                repeat (go_quiet (fail); try go_wp2)
                                                go_roundg k4
                                                case measure => have := HJ6.out; have := HJ14.out; have := HK3.out; have := HK4.out; omega
                                                case rel => exact ⟨(wrap64 (x16_4 + 1)), (by first | rfl | (simp; done) | (simp [*]; done)), H', ⟨by have := HJ6.out; have := HJ14.out; have := HK3.out; have := HK4.out; omega⟩, ⟨by (with_reducible repeat (first | apply Kd.S_alloc | apply Kd.S_drewN | apply Kd.S_drew)); exact HO_9.out⟩, ⟨by (with_reducible repeat (first | apply Kd.S_alloc | apply Kd.S_drewN | apply Kd.S_drew)); exact HO_12.out⟩, ⟨by repeat (first | (with_reducible exact HR202_0.out) | (with_reducible refine Kd.C_alloc ?_ _) | (with_reducible refine Kd.C_drewN ?_ _) | (with_reducible refine Kd.C_drew ?_) | exact HR202_0.out)⟩, ⟨by repeat (first | (with_reducible exact HR203_0.out) | (with_reducible refine Kd.C_alloc ?_ _) | (with_reducible refine Kd.C_drewN ?_ _) | (with_reducible refine Kd.C_drew ?_) | exact HR203_0.out)⟩, ⟨by repeat (first | (with_reducible first | exact HB.out | apply below_alloc | apply pw_below_drewN | apply below_drew1) | exact HB.out)⟩⟩
                                              · rw [if_neg c36] at H
                                                have c36b0 : (((rd_T35 ((rd_T32 t192 x15_3).f0) x16_4).f1) == ((rd_T36 (rd_L6 t197 x15_3) x16_4).f1)) = false := beq_eq_false_iff_ne.mpr c36
                                                have c36b1 : (((rd_T35 ((rd_T32 t192 x15_3).f0) x16_4).f1) != ((rd_T36 (rd_L6 t197 x15_3) x16_4).f1)) = true := bne_iff_ne.mpr c36
                                                obtain rfl := Option.some.inj H
                                                have p204 : 0 ≤ (x15_3 : Int) := of_decide_eq_true (by first | (with_reducible assumption) | assumption)
                                                have q204 : x15_3 < (t197.length : Int) := of_decide_eq_true (by first | (with_reducible assumption) | assumption)
                                                obtain ⟨ad204, A204_0, c204_0, e204, hx204_0, hl204_0, hi204_0⟩ := at_L6 (Kd.S_reads' HO_12.out).2.2 x15_3 p204 q204
                                                obtain rfl : ad203 = ad204 := (by injection e204)
                                                obtain ⟨ce204, hce204, hMe204, hcc204⟩ := Kd.S_get HO_12.out [] x15_3 p204 (by first | exact q204 | exact of_decide_eq_true (by first | (with_reducible assumption) | assumption) | (have e_ := (Kd.S_reads' HO_12.out).1; omega))
                                                obtain ⟨ve204_0, rfl, ge204_0⟩ := hMe204
                                                have hv204_0 := hcc204 0 _ rfl
                                                rw [Nat.add_zero, show ((Kd.slice 36 k36)).sz = 1 from rfl, Nat.mul_one] at hv204_0
                                                replace hv204_0 := Option.some.inj (hv204_0.symm.trans hx204_0)
                                                rw [hv204_0] at ge204_0
                                                have HL204_0 := Aside0.mk (show Kd.R k36 36 _ _ _ _ (rd_L6 t197 x15_3) from ge204_0)
                                                clear hv204_0 ge204_0
                                                clear hcc204 hce204
                                                have HR204_0 := Aside0.mk hi204_0
                                                have HC204_0 := Aside0.mk hl204_0
                                                clear hi204_0 hl204_0
                                                replace p204 := eq_true p204
                                                replace q204 := eq_true q204
                                                have p205 : 0 ≤ (x15_3 : Int) := of_decide_eq_true (by first | (with_reducible assumption) | assumption)
                                                have q205 : x15_3 < (t192.length : Int) := of_decide_eq_true (by first | (with_reducible assumption) | assumption)
                                                obtain ⟨ad205, A205_0, c205_0, e205, hx205_0, hl205_0, hi205_0⟩ := at_T32 (Kd.S_reads' HO_9.out).2.2 x15_3 p205 q205
                                                obtain rfl : ad202 = ad205 := (by injection e205)
                                                obtain ⟨ce205, hce205, hMe205, hcc205⟩ := Kd.S_get HO_9.out z32 x15_3 p205 (by first | exact q205 | exact of_decide_eq_true (by first | (with_reducible assumption) | assumption) | (have e_ := (Kd.S_reads' HO_9.out).1; omega))
                                                obtain ⟨ve205_0, rfl, ge205_0⟩ := k49_openM hMe205
                                                have hv205_0 := hcc205 0 _ rfl
                                                rw [Nat.add_zero, show (k32).sz = 1 from rfl, Nat.mul_one] at hv205_0
                                                replace hv205_0 := Option.some.inj (hv205_0.symm.trans hx205_0)
                                                rw [hv205_0] at ge205_0
                                                have HL205_0 := Aside0.mk (show Kd.R k35 35 _ _ _ _ ((rd_T32 t192 x15_3).f0) from ge205_0)
                                                clear hv205_0 ge205_0
                                                clear hcc205 hce205
                                                have HR205_0 := Aside0.mk hi205_0
                                                have HC205_0 := Aside0.mk hl205_0
                                                clear hi205_0 hl205_0
                                                replace p205 := eq_true p205
                                                replace q205 := eq_true q205
                                                have p206 : 0 ≤ (x16_4 : Int) := of_decide_eq_true (by first | (with_reducible assumption) | assumption)
                                                have q206 : x16_4 < (((rd_T32 t192 x15_3).f0).length : Int) := of_decide_eq_true (by first | (with_reducible assumption) | assumption)
                                                obtain ⟨ad206, e206, hx206_0, hx206_1⟩ := at_T35 (by repeat (first | (with_reducible exact HR205_0.out) | (with_reducible refine Kd.C_alloc ?_ _) | (with_reducible refine Kd.C_drewN ?_ _) | (with_reducible refine Kd.C_drew ?_) | exact HR205_0.out)) x16_4 p206 q206
                                                cases e206
                                                replace p206 := eq_true p206
                                                replace q206 := eq_true q206
                                                have p207 : 0 ≤ (x15_3 : Int) := of_decide_eq_true (by first | (with_reducible assumption) | assumption)
                                                have q207 : x15_3 < (t197.length : Int) := of_decide_eq_true (by first | (with_reducible assumption) | assumption)
                                                obtain ⟨ad207, A207_0, c207_0, e207, hx207_0, hl207_0, hi207_0⟩ := at_L6 (Kd.S_reads' HO_12.out).2.2 x15_3 p207 q207
                                                obtain rfl : ad203 = ad207 := (by injection e207)
                                                obtain ⟨ce207, hce207, hMe207, hcc207⟩ := Kd.S_get HO_12.out [] x15_3 p207 (by first | exact q207 | exact of_decide_eq_true (by first | (with_reducible assumption) | assumption) | (have e_ := (Kd.S_reads' HO_12.out).1; omega))
                                                obtain ⟨ve207_0, rfl, ge207_0⟩ := hMe207
                                                have hv207_0 := hcc207 0 _ rfl
                                                rw [Nat.add_zero, show ((Kd.slice 36 k36)).sz = 1 from rfl, Nat.mul_one] at hv207_0
                                                replace hv207_0 := Option.some.inj (hv207_0.symm.trans hx207_0)
                                                rw [hv207_0] at ge207_0
                                                have HL207_0 := Aside0.mk (show Kd.R k36 36 _ _ _ _ (rd_L6 t197 x15_3) from ge207_0)
                                                clear hv207_0 ge207_0
                                                clear hcc207 hce207
                                                have HR207_0 := Aside0.mk hi207_0
                                                have HC207_0 := Aside0.mk hl207_0
                                                clear hi207_0 hl207_0
                                                replace p207 := eq_true p207
                                                replace q207 := eq_true q207
                                                have ea_ := Option.some.inj (hx204_0.symm.trans hx207_0)
                                                injection ea_ with ea_ en_ ec_
                                                subst ea_
                                                subst ec_
                                                clear en_
                                                have p208 : 0 ≤ (x16_4 : Int) := of_decide_eq_true (by first | (with_reducible assumption) | assumption)
                                                have q208 : x16_4 < ((rd_L6 t197 x15_3).length : Int) := of_decide_eq_true (by first | (with_reducible assumption) | assumption)
                                                obtain ⟨ad208, e208, hx208_0, hx208_1⟩ := at_T36 (by repeat (first | (with_reducible exact HR207_0.out) | (with_reducible refine Kd.C_alloc ?_ _) | (with_reducible refine Kd.C_drewN ?_ _) | (with_reducible refine Kd.C_drew ?_) | exact HR207_0.out)) x16_4 p208 q208
                                                cases e208
                                                replace p208 := eq_true p208
                                                replace q208 := eq_true q208
                                                have p209 : 0 ≤ (x15_3 : Int) := of_decide_eq_true (by first | (with_reducible assumption) | assumption)
                                                have q209 : x15_3 < (t192.length : Int) := of_decide_eq_true (by first | (with_reducible assumption) | assumption)
                                                obtain ⟨ad209, A209_0, c209_0, e209, hx209_0, hl209_0, hi209_0⟩ := at_T32 (Kd.S_reads' HO_9.out).2.2 x15_3 p209 q209
                                                obtain rfl : ad202 = ad209 := (by injection e209)
                                                obtain ⟨ce209, hce209, hMe209, hcc209⟩ := Kd.S_get HO_9.out z32 x15_3 p209 (by first | exact q209 | exact of_decide_eq_true (by first | (with_reducible assumption) | assumption) | (have e_ := (Kd.S_reads' HO_9.out).1; omega))
                                                obtain ⟨ve209_0, rfl, ge209_0⟩ := k49_openM hMe209
                                                have hv209_0 := hcc209 0 _ rfl
                                                rw [Nat.add_zero, show (k32).sz = 1 from rfl, Nat.mul_one] at hv209_0
                                                replace hv209_0 := Option.some.inj (hv209_0.symm.trans hx209_0)
                                                rw [hv209_0] at ge209_0
                                                have HL209_0 := Aside0.mk (show Kd.R k35 35 _ _ _ _ ((rd_T32 t192 x15_3).f0) from ge209_0)
                                                clear hv209_0 ge209_0
                                                clear hcc209 hce209
                                                have HR209_0 := Aside0.mk hi209_0
                                                have HC209_0 := Aside0.mk hl209_0
                                                clear hi209_0 hl209_0
                                                replace p209 := eq_true p209
                                                replace q209 := eq_true q209
                                                have ea_ := Option.some.inj (hx205_0.symm.trans hx209_0)
                                                injection ea_ with ea_ en_ ec_
                                                subst ea_
                                                subst ec_
                                                clear en_
                                                have p210 : 0 ≤ (x16_4 : Int) := of_decide_eq_true (by first | (with_reducible assumption) | assumption)
                                                have q210 : x16_4 < (((rd_T32 t192 x15_3).f0).length : Int) := of_decide_eq_true (by first | (with_reducible assumption) | assumption)
                                                obtain ⟨ad210, e210, hx210_0, hx210_1⟩ := at_T35 (by repeat (first | (with_reducible exact HR209_0.out) | (with_reducible refine Kd.C_alloc ?_ _) | (with_reducible refine Kd.C_drewN ?_ _) | (with_reducible refine Kd.C_drew ?_) | exact HR209_0.out)) x16_4 p210 q210
                                                cases e210
                                                replace p210 := eq_true p210
                                                replace q210 := eq_true q210
                                                have p211 : 0 ≤ (x15_3 : Int) := of_decide_eq_true (by first | (with_reducible assumption) | assumption)
                                                have q211 : x15_3 < (t197.length : Int) := of_decide_eq_true (by first | (with_reducible assumption) | assumption)
                                                obtain ⟨ad211, A211_0, c211_0, e211, hx211_0, hl211_0, hi211_0⟩ := at_L6 (Kd.S_reads' HO_12.out).2.2 x15_3 p211 q211
                                                obtain rfl : ad203 = ad211 := (by injection e211)
                                                obtain ⟨ce211, hce211, hMe211, hcc211⟩ := Kd.S_get HO_12.out [] x15_3 p211 (by first | exact q211 | exact of_decide_eq_true (by first | (with_reducible assumption) | assumption) | (have e_ := (Kd.S_reads' HO_12.out).1; omega))
                                                obtain ⟨ve211_0, rfl, ge211_0⟩ := hMe211
                                                have hv211_0 := hcc211 0 _ rfl
                                                rw [Nat.add_zero, show ((Kd.slice 36 k36)).sz = 1 from rfl, Nat.mul_one] at hv211_0
                                                replace hv211_0 := Option.some.inj (hv211_0.symm.trans hx211_0)
                                                rw [hv211_0] at ge211_0
                                                have HL211_0 := Aside0.mk (show Kd.R k36 36 _ _ _ _ (rd_L6 t197 x15_3) from ge211_0)
                                                clear hv211_0 ge211_0
                                                clear hcc211 hce211
                                                have HR211_0 := Aside0.mk hi211_0
                                                have HC211_0 := Aside0.mk hl211_0
                                                clear hi211_0 hl211_0
                                                replace p211 := eq_true p211
                                                replace q211 := eq_true q211
                                                have ea_ := Option.some.inj (hx204_0.symm.trans hx211_0)
                                                injection ea_ with ea_ en_ ec_
                                                subst ea_
                                                subst ec_
                                                clear en_
                                                have p212 : 0 ≤ (x16_4 : Int) := of_decide_eq_true (by first | (with_reducible assumption) | assumption)
                                                have q212 : x16_4 < ((rd_L6 t197 x15_3).length : Int) := of_decide_eq_true (by first | (with_reducible assumption) | assumption)
                                                obtain ⟨ad212, e212, hx212_0, hx212_1⟩ := at_T36 (by repeat (first | (with_reducible exact HR211_0.out) | (with_reducible refine Kd.C_alloc ?_ _) | (with_reducible refine Kd.C_drewN ?_ _) | (with_reducible refine Kd.C_drew ?_) | exact HR211_0.out)) x16_4 p212 q212
                                                cases e212
                                                replace p212 := eq_true p212
                                                replace q212 := eq_true q212
                                                go_wp2
                                                repeat (go_quiet (fail); try go_wp2)
                                                go_ret
                                                exact ⟨by first | rfl | (simp [errW_none, errW_some] <;> rfl) | (simp [*, errW_none, errW_some] <;> rfl), by repeat (first | (with_reducible first | exact HB.out | apply below_alloc | apply pw_below_drewN | apply below_drew1) | exact HB.out)⟩
                                            · rw [if_neg c35] at H
                                              have c35b0 : (((rd_T35 ((rd_T32 t192 x15_3).f0) x16_4).f0).toList == ((rd_T36 (rd_L6 t197 x15_3) x16_4).f0).toList) = false := beq_eq_false_iff_ne.mpr c35
                                              have c35b1 : (((rd_T35 ((rd_T32 t192 x15_3).f0) x16_4).f0).toList != ((rd_T36 (rd_L6 t197 x15_3) x16_4).f0).toList) = true := bne_iff_ne.mpr c35
                                              obtain rfl := Option.some.inj H
                                              have p204 : 0 ≤ (x15_3 : Int) := of_decide_eq_true (by first | (with_reducible assumption) | assumption)
                                              have q204 : x15_3 < (t197.length : Int) := of_decide_eq_true (by first | (with_reducible assumption) | assumption)
                                              obtain ⟨ad204, A204_0, c204_0, e204, hx204_0, hl204_0, hi204_0⟩ := at_L6 (Kd.S_reads' HO_12.out).2.2 x15_3 p204 q204
                                              obtain rfl : ad203 = ad204 := (by injection e204)
                                              obtain ⟨ce204, hce204, hMe204, hcc204⟩ := Kd.S_get HO_12.out [] x15_3 p204 (by first | exact q204 | exact of_decide_eq_true (by first | (with_reducible assumption) | assumption) | (have e_ := (Kd.S_reads' HO_12.out).1; omega))
                                              obtain ⟨ve204_0, rfl, ge204_0⟩ := hMe204
                                              have hv204_0 := hcc204 0 _ rfl
                                              rw [Nat.add_zero, show ((Kd.slice 36 k36)).sz = 1 from rfl, Nat.mul_one] at hv204_0
                                              replace hv204_0 := Option.some.inj (hv204_0.symm.trans hx204_0)
                                              rw [hv204_0] at ge204_0
                                              have HL204_0 := Aside0.mk (show Kd.R k36 36 _ _ _ _ (rd_L6 t197 x15_3) from ge204_0)
                                              clear hv204_0 ge204_0
                                              clear hcc204 hce204
                                              have HR204_0 := Aside0.mk hi204_0
                                              have HC204_0 := Aside0.mk hl204_0
                                              clear hi204_0 hl204_0
                                              replace p204 := eq_true p204
                                              replace q204 := eq_true q204
                                              have p205 : 0 ≤ (x15_3 : Int) := of_decide_eq_true (by first | (with_reducible assumption) | assumption)
                                              have q205 : x15_3 < (t192.length : Int) := of_decide_eq_true (by first | (with_reducible assumption) | assumption)
                                              obtain ⟨ad205, A205_0, c205_0, e205, hx205_0, hl205_0, hi205_0⟩ := at_T32 (Kd.S_reads' HO_9.out).2.2 x15_3 p205 q205
                                              obtain rfl : ad202 = ad205 := (by injection e205)
                                              obtain ⟨ce205, hce205, hMe205, hcc205⟩ := Kd.S_get HO_9.out z32 x15_3 p205 (by first | exact q205 | exact of_decide_eq_true (by first | (with_reducible assumption) | assumption) | (have e_ := (Kd.S_reads' HO_9.out).1; omega))
                                              obtain ⟨ve205_0, rfl, ge205_0⟩ := k49_openM hMe205
                                              have hv205_0 := hcc205 0 _ rfl
                                              rw [Nat.add_zero, show (k32).sz = 1 from rfl, Nat.mul_one] at hv205_0
                                              replace hv205_0 := Option.some.inj (hv205_0.symm.trans hx205_0)
                                              rw [hv205_0] at ge205_0
                                              have HL205_0 := Aside0.mk (show Kd.R k35 35 _ _ _ _ ((rd_T32 t192 x15_3).f0) from ge205_0)
                                              clear hv205_0 ge205_0
                                              clear hcc205 hce205
                                              have HR205_0 := Aside0.mk hi205_0
                                              have HC205_0 := Aside0.mk hl205_0
                                              clear hi205_0 hl205_0
                                              replace p205 := eq_true p205
                                              replace q205 := eq_true q205
                                              have p206 : 0 ≤ (x16_4 : Int) := of_decide_eq_true (by first | (with_reducible assumption) | assumption)
                                              have q206 : x16_4 < (((rd_T32 t192 x15_3).f0).length : Int) := of_decide_eq_true (by first | (with_reducible assumption) | assumption)
                                              obtain ⟨ad206, e206, hx206_0, hx206_1⟩ := at_T35 (by repeat (first | (with_reducible exact HR205_0.out) | (with_reducible refine Kd.C_alloc ?_ _) | (with_reducible refine Kd.C_drewN ?_ _) | (with_reducible refine Kd.C_drew ?_) | exact HR205_0.out)) x16_4 p206 q206
                                              cases e206
                                              replace p206 := eq_true p206
                                              replace q206 := eq_true q206
                                              have p207 : 0 ≤ (x15_3 : Int) := of_decide_eq_true (by first | (with_reducible assumption) | assumption)
                                              have q207 : x15_3 < (t197.length : Int) := of_decide_eq_true (by first | (with_reducible assumption) | assumption)
                                              obtain ⟨ad207, A207_0, c207_0, e207, hx207_0, hl207_0, hi207_0⟩ := at_L6 (Kd.S_reads' HO_12.out).2.2 x15_3 p207 q207
                                              obtain rfl : ad203 = ad207 := (by injection e207)
                                              obtain ⟨ce207, hce207, hMe207, hcc207⟩ := Kd.S_get HO_12.out [] x15_3 p207 (by first | exact q207 | exact of_decide_eq_true (by first | (with_reducible assumption) | assumption) | (have e_ := (Kd.S_reads' HO_12.out).1; omega))
                                              obtain ⟨ve207_0, rfl, ge207_0⟩ := hMe207
                                              have hv207_0 := hcc207 0 _ rfl
                                              rw [Nat.add_zero, show ((Kd.slice 36 k36)).sz = 1 from rfl, Nat.mul_one] at hv207_0
                                              replace hv207_0 := Option.some.inj (hv207_0.symm.trans hx207_0)
                                              rw [hv207_0] at ge207_0
                                              have HL207_0 := Aside0.mk (show Kd.R k36 36 _ _ _ _ (rd_L6 t197 x15_3) from ge207_0)
                                              clear hv207_0 ge207_0
                                              clear hcc207 hce207
                                              have HR207_0 := Aside0.mk hi207_0
                                              have HC207_0 := Aside0.mk hl207_0
                                              clear hi207_0 hl207_0
                                              replace p207 := eq_true p207
                                              replace q207 := eq_true q207
                                              have ea_ := Option.some.inj (hx204_0.symm.trans hx207_0)
                                              injection ea_ with ea_ en_ ec_
                                              subst ea_
                                              subst ec_
                                              clear en_
                                              have p208 : 0 ≤ (x16_4 : Int) := of_decide_eq_true (by first | (with_reducible assumption) | assumption)
                                              have q208 : x16_4 < ((rd_L6 t197 x15_3).length : Int) := of_decide_eq_true (by first | (with_reducible assumption) | assumption)
                                              obtain ⟨ad208, e208, hx208_0, hx208_1⟩ := at_T36 (by repeat (first | (with_reducible exact HR207_0.out) | (with_reducible refine Kd.C_alloc ?_ _) | (with_reducible refine Kd.C_drewN ?_ _) | (with_reducible refine Kd.C_drew ?_) | exact HR207_0.out)) x16_4 p208 q208
                                              cases e208
                                              replace p208 := eq_true p208
                                              replace q208 := eq_true q208
                                              go_wp2
                                              repeat (go_quiet (fail); try go_wp2)
                                              go_ret
                                              exact ⟨by first | rfl | (simp [errW_none, errW_some] <;> rfl) | (simp [*, errW_none, errW_some] <;> rfl), by repeat (first | (with_reducible first | exact HB.out | apply below_alloc | apply pw_below_drewN | apply below_drew1) | exact HB.out)⟩
                                          · rw [if_neg c34] at H
                                            exact absurd H (by simp)
                                        · rw [if_neg c33] at H
                                          exact absurd H (by simp)
                                      · rw [if_neg c32] at H
                                        exact absurd H (by simp)
                                    · rw [if_neg c31] at H
                                      have c31b0 : decide (x16_4 < ((rd_L6 t197 x15_3).length : Int)) = false := decide_eq_false c31
                                      clear c31
                                      have H' := Aside0.mk H
                                      clear H
                                      have p204 : 0 ≤ (x15_3 : Int) := of_decide_eq_true (by first | (with_reducible assumption) | assumption)
                                      have q204 : x15_3 < (t197.length : Int) := of_decide_eq_true (by first | (with_reducible assumption) | assumption)
                                      obtain ⟨ad204, A204_0, c204_0, e204, hx204_0, hl204_0, hi204_0⟩ := at_L6 (Kd.S_reads' HO_12.out).2.2 x15_3 p204 q204
                                      obtain rfl : ad203 = ad204 := (by injection e204)
                                      obtain ⟨ce204, hce204, hMe204, hcc204⟩ := Kd.S_get HO_12.out [] x15_3 p204 (by first | exact q204 | exact of_decide_eq_true (by first | (with_reducible assumption) | assumption) | (have e_ := (Kd.S_reads' HO_12.out).1; omega))
                                      obtain ⟨ve204_0, rfl, ge204_0⟩ := hMe204
                                      have hv204_0 := hcc204 0 _ rfl
                                      rw [Nat.add_zero, show ((Kd.slice 36 k36)).sz = 1 from rfl, Nat.mul_one] at hv204_0
                                      replace hv204_0 := Option.some.inj (hv204_0.symm.trans hx204_0)
                                      rw [hv204_0] at ge204_0
                                      have HL204_0 := Aside0.mk (show Kd.R k36 36 _ _ _ _ (rd_L6 t197 x15_3) from ge204_0)
                                      clear hv204_0 ge204_0
                                      clear hcc204 hce204
                                      have HR204_0 := Aside0.mk hi204_0
                                      have HC204_0 := Aside0.mk hl204_0
                                      clear hi204_0 hl204_0
                                      replace p204 := eq_true p204
                                      replace q204 := eq_true q204
                                      go_wp2
                                      repeat (go_quiet (fail); try go_wp2)
                                      go_roundg k4
                                      case measure => have := HJ6.out; have := HJ14.out; have := HK3.out; have := HK4.out; omega
                                      case rel => exact ⟨(wrap64 (x15_3 + 1)), (by first | rfl | (simp; done) | (simp [*]; done)), H', ⟨by have := HJ6.out; have := HJ14.out; have := HK3.out; have := HK4.out; omega⟩, ⟨by (with_reducible repeat (first | apply Kd.S_alloc | apply Kd.S_drewN | apply Kd.S_drew)); exact HO_9.out⟩, ⟨by (with_reducible repeat (first | apply Kd.S_alloc | apply Kd.S_drewN | apply Kd.S_drew)); exact HO_12.out⟩, ⟨by repeat (first | (with_reducible first | exact HB.out | apply below_alloc | apply pw_below_drewN | apply below_drew1) | exact HB.out)⟩⟩
                                  · rw [if_neg c30] at H
                                    exact absurd H (by simp)
                                · rw [if_neg c29] at H
                                  exact absurd H (by simp)
                          · rw [if_neg c26] at H
                            have c26b0 : ((((rd_T32 t192 x15_3).f0).length : Int) == ((rd_L6 t197 x15_3).length : Int)) = false := beq_eq_false_iff_ne.mpr c26
                            have c26b1 : ((((rd_T32 t192 x15_3).f0).length : Int) != ((rd_L6 t197 x15_3).length : Int)) = true := bne_iff_ne.mpr c26
                            have c26b2 : (((rd_T32 t192 x15_3).f0).length == (rd_L6 t197 x15_3).length) = false := by first | simpa using c26 | (simp at c26 ⊢; omega)
                            obtain rfl := Option.some.inj H
                            obtain ⟨Ao37, co37, eo37⟩ := Kd.S_slice HO_9.out
                            subst eo37
                            have p202 : 0 ≤ (x15_3 : Int) := of_decide_eq_true (by first | (with_reducible assumption) | assumption)
                            have q202 : x15_3 < (t192.length : Int) := of_decide_eq_true (by first | (with_reducible assumption) | assumption)
                            obtain ⟨ad202, A202_0, c202_0, e202, hx202_0, hl202_0, hi202_0⟩ := at_T32 (Kd.S_reads' HO_9.out).2.2 x15_3 p202 q202
                            cases e202
                            obtain ⟨ce202, hce202, hMe202, hcc202⟩ := Kd.S_get HO_9.out z32 x15_3 p202 (by first | exact q202 | exact of_decide_eq_true (by first | (with_reducible assumption) | assumption) | (have e_ := (Kd.S_reads' HO_9.out).1; omega))
                            obtain ⟨ve202_0, rfl, ge202_0⟩ := k49_openM hMe202
                            have hv202_0 := hcc202 0 _ rfl
                            rw [Nat.add_zero, show (k32).sz = 1 from rfl, Nat.mul_one] at hv202_0
                            replace hv202_0 := Option.some.inj (hv202_0.symm.trans hx202_0)
                            rw [hv202_0] at ge202_0
                            have HL202_0 := Aside0.mk (show Kd.R k35 35 _ _ _ _ ((rd_T32 t192 x15_3).f0) from ge202_0)
                            clear hv202_0 ge202_0
                            clear hcc202 hce202
                            have HR202_0 := Aside0.mk hi202_0
                            have HC202_0 := Aside0.mk hl202_0
                            clear hi202_0 hl202_0
                            replace p202 := eq_true p202
                            replace q202 := eq_true q202
                            obtain ⟨Ao38, co38, eo38⟩ := Kd.S_slice HO_12.out
                            subst eo38
                            have p203 : 0 ≤ (x15_3 : Int) := of_decide_eq_true (by first | (with_reducible assumption) | assumption)
                            have q203 : x15_3 < (t197.length : Int) := of_decide_eq_true (by first | (with_reducible assumption) | assumption)
                            obtain ⟨ad203, A203_0, c203_0, e203, hx203_0, hl203_0, hi203_0⟩ := at_L6 (Kd.S_reads' HO_12.out).2.2 x15_3 p203 q203
                            cases e203
                            obtain ⟨ce203, hce203, hMe203, hcc203⟩ := Kd.S_get HO_12.out [] x15_3 p203 (by first | exact q203 | exact of_decide_eq_true (by first | (with_reducible assumption) | assumption) | (have e_ := (Kd.S_reads' HO_12.out).1; omega))
                            obtain ⟨ve203_0, rfl, ge203_0⟩ := hMe203
                            have hv203_0 := hcc203 0 _ rfl
                            rw [Nat.add_zero, show ((Kd.slice 36 k36)).sz = 1 from rfl, Nat.mul_one] at hv203_0
                            replace hv203_0 := Option.some.inj (hv203_0.symm.trans hx203_0)
                            rw [hv203_0] at ge203_0
                            have HL203_0 := Aside0.mk (show Kd.R k36 36 _ _ _ _ (rd_L6 t197 x15_3) from ge203_0)
                            clear hv203_0 ge203_0
                            clear hcc203 hce203
                            have HR203_0 := Aside0.mk hi203_0
                            have HC203_0 := Aside0.mk hl203_0
                            clear hi203_0 hl203_0
                            replace p203 := eq_true p203
                            replace q203 := eq_true q203
                            go_wp2
                            repeat (go_quiet (fail); try go_wp2)
                            go_ret
                            exact ⟨by first | rfl | (simp [errW_none, errW_some] <;> rfl) | (simp [*, errW_none, errW_some] <;> rfl), by repeat (first | (with_reducible first | exact HB.out | apply below_alloc | apply pw_below_drewN | apply below_drew1) | exact HB.out)⟩
                        · rw [if_neg c25] at H
                          exact absurd H (by simp)
                      · rw [if_neg c24] at H
                        exact absurd H (by simp)
                    · rw [if_neg c23] at H
                      have c23b0 : decide (x15_3 < (t192.length : Int)) = false := decide_eq_false c23
                      clear c23
                      obtain rfl := Option.some.inj H
                      obtain ⟨Ao39, co39, eo39⟩ := Kd.S_slice HO_9.out
                      subst eo39
                      have hLx := hLw.below hLw.big HB.out
                      obtain ⟨x, q, y, p, S, ⟨T1, T2, T3, T4, T5, T6⟩⟩ := hT
                      have hBx := HB.out
                      have e1 : (x == x) = true := beq_self_eq_true x
                      have e2 : (q == q) = true := beq_self_eq_true q
                      have e3 : (y == y) = true := beq_self_eq_true y
                      have e4 : (p == p) = true := beq_self_eq_true p
                      go_wp2_with fail
                      refine (T1 _ hLx).mono ?_
                      rintro e W1 ⟨rfl, hb1⟩
                      replace hBx := below_step hBx hb1
                      clear hb1
                      go_wp2_with fail
                      refine (T2 _).mono ?_
                      rintro e W2 ⟨rfl, hb2⟩
                      replace hBx := below_step hBx hb2
                      clear hb2
                      go_wp2_with fail
                      refine (T3 _ (hLw.below hLw.big hBx)).mono ?_
                      rintro e W3 ⟨rfl, hb3⟩
                      replace hBx := below_step hBx hb3
                      clear hb3
                      go_wp2_with fail
                      refine (T4 _).mono ?_
                      rintro e W4 ⟨rfl, hb4⟩
                      replace hBx := below_step hBx hb4
                      clear hb4
                      go_wp2_with fail
                      all_goals first
                        | (refine (T5 _ (hLw.below hLw.big hBx)).mono ?_
                           rintro e W5 ⟨rfl, hb5⟩
                           replace hBx := below_step hBx hb5
                           clear hb5
                           go_wp2_with fail
                           refine (T6 _).mono ?_
                           rintro e W6 ⟨rfl, hb6⟩
                           replace hBx := below_step hBx hb6
                           clear hb6
                           go_wp2_with fail
                           all_goals (go_ret; exact ⟨by first | rfl | (simp; done) | (simp [*]; done), hBx⟩))
                        | (exfalso; simp_all; done)
  · replace c6 := Bool.eq_false_iff.mpr c6
    subst c6
    have H1 : (some false) = some r := by rw [if_neg (show ¬ (false = true) by decide)] at H; exact H
    clear H
    have H := H1
    clear H1
    obtain rfl := Option.some.inj H
    go_enter Tryd.func3, Tryd.ntmps3
    go_wp2_with (first | (go_at_call 9; (with_reducible refine (plnlaw7_first.calls k  false _ A5.out).mono ?_); rintro e w40 ⟨rfl, hb⟩; have n0_ := Aside0.mk (below_step (by repeat (first | (with_reducible first | exact HB.out | apply below_alloc | apply pw_below_drewN | apply below_drew1) | exact HB.out)) hb); clear HB; have HB := n0_; clear n0_; (try clear hb); (try clear hb2); (try clear hk); (try clear hi)))
    repeat (go_quiet (first | (go_at_call 9; (with_reducible refine (plnlaw7_first.calls k  false _ A5.out).mono ?_); rintro e w40 ⟨rfl, hb⟩; have n0_ := Aside0.mk (below_step (by repeat (first | (with_reducible first | exact HB.out | apply below_alloc | apply pw_below_drewN | apply below_drew1) | exact HB.out)) hb); clear HB; have HB := n0_; clear n0_; (try clear hb); (try clear hb2); (try clear hk); (try clear hi))); try go_wp2_with (first | (go_at_call 9; (with_reducible refine (plnlaw7_first.calls k  false _ A5.out).mono ?_); rintro e w40 ⟨rfl, hb⟩; have n0_ := Aside0.mk (below_step (by repeat (first | (with_reducible first | exact HB.out | apply below_alloc | apply pw_below_drewN | apply below_drew1) | exact HB.out)) hb); clear HB; have HB := n0_; clear n0_; (try clear hb); (try clear hb2); (try clear hk); (try clear hi))))
    go_ret
    exact ⟨by first | rfl | (simp [errW_none, errW_some] <;> rfl) | (simp [*, errW_none, errW_some] <;> rfl), by repeat (first | (with_reducible first | exact HB.out | apply below_alloc | apply pw_below_drewN | apply below_drew1) | exact HB.out)⟩

end Go.Proofs.YtggibjbcbicpjaaDoor.QLexTells
