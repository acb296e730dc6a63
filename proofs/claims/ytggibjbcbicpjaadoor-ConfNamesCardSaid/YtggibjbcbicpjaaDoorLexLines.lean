/- lex.Lines: what it answers is lex_Lines.f's answer (with the variables that its closure shares in two blocks of their own). -/
import Derived.Scope
import Derived.Laws.ResultCell
import Derived.Test.YtggibjbcbicpjaaDoorLexDone
namespace Go.Proofs.YtggibjbcbicpjaaDoor.QLexWhere
open Go.RowKit Go.Proofs.YtggibjbcbicpjaaDoorW.PrintWords Go.Proofs.YtggibjbcbicpjaaDoorW.PrintLast Go.Proofs.YtggibjbcbicpjaaDoorW.PrintMore
set_option linter.unusedVariables false
set_option linter.unusedSimpArgs false
set_option maxRecDepth 100000
theorem results_cell3 {fn : Func} {p t u : Tmp} {ty : TypeId} (h : fn.results = #[.cell p ty, .tmp t, .tmp u]) (tmps : Array Value) (P : Program) (w : World) :
    (results fn tmps).run P w =
      ((asAddr (tmps.getD p undef)).run P w).andThen fun a w₁ => ((loadVar ty a).run P w₁).andThen fun v w₂ => .ok (.tuple #[v, tmps.getD t undef, tmps.getD u undef]) w₂ := by
  simp only [results, h]
  simp [Sem.run_bind, Result.andThen]
theorem res3 {w : World} {g : Nat} {A : Option Addr} {n c : Nat} (tmps : Array Value) (h2 : tmps.getD 2 undef = .pointer (some ⟨g, 0, none⟩)) (hc : w.cell? ⟨g, 0, none⟩ = some (.slice A n c)) :
    (results Tryd.f10 tmps).run Tryd.prog w = .ok (.tuple #[.slice A n c, tmps.getD 3 undef, tmps.getD 4 undef]) w := by
  rw [results_cell3 (p := 2) (t := 3) (u := 4) (ty := 23) rfl, h2]
  have hl : (loadVar 23 ⟨g, 0, none⟩).run Tryd.prog w = .ok (.slice A n c) w := by
    go_simp
  show Result.andThen (.ok (⟨g, 0, none⟩ : Addr) w) _ = _
  simp only [Result.andThen, hl]
theorem below_drewB (B : Nat) (w : World) : Below B w w.drew := ⟨rfl, rfl, rfl, Nat.le_refl _, fun _ _ => rfl⟩
theorem lexB_start (w : World) : LexB ((w.alloc (.cells #[.slice none 0 0] 23 (0, 0))).alloc (.cells #[.slice none 0 0] 30 (0, 0))) w.heap.size w.heap.size (w.heap.size + 1) [] [] := by
  refine ⟨⟨by omega, Nat.le_refl _, by omega⟩, .slice none 0 0, .slice none 0 0, ?_, ?_, Kd.S_nil _ _ _ _ _, Kd.R_nil _ _ _ _ _⟩
  · exact blk_alloc (blk_new w (.cells #[.slice none 0 0] 23 (0, 0))) _
  · have h := blk_new (w.alloc (.cells #[.slice none 0 0] 23 (0, 0))) (.cells #[.slice none 0 0] 30 (0, 0))
    have hz : (w.alloc (.cells #[.slice none 0 0] 23 (0, 0))).heap.size = w.heap.size + 1 := by show (w.heap.push _).size = _; rw [Array.size_push]
    rw [hz] at h
    exact h
set_option maxHeartbeats 8000000 in
set_option maxRecDepth 100000 in
theorem lex_Lines.calls (k : Nat) (a0 : ByteArray) (r1 : List (S32)) (r2 : Int) (r3 : Int) (w : World) (h : lex_Lines.f k a0 = some (r1, r2, r3)) :
    Calls Tryd.prog 10 #[.string a0] w fun e w' => ∃ v0_ : Value, e = .returned (.tuple #[v0_, .int .i64 r2, .int .i64 r3]) ∧ Kd.S k32 32 w' w.heap.size (fun _ => True) v0_ r1 ∧ Below w.heap.size w w' := by
  have hmf : ∀ (fn : Fn) (first cap : Array Value) (w : World), (Instr.makeFunc fn first cap).run Tryd.prog w = .ok (.func fn first cap) w := fun _ _ _ _ => rfl
  have H : (if (a0.size : Int) > 4194304 then (some (([] : List (S32)), 0, 2)) else (lex_Lines.l0 k a0 ([] : List (S32)) (a0.size : Int) 0)) = some (r1, r2, r3) := h
  clear h
  have HBW := Aside0.mk (below_alloc (Below.refl w.heap.size w) (.cells #[.slice none 0 0] 23 (0, 0)))
  have hbx := blk_new w (.cells #[.slice none 0 0] 23 (0, 0))
  have hcx := blk_cell hbx 0
  have hfx := blk_frozen hbx 0
  clear hbx
  by_cases c2 : (a0.size : Int) > 4194304
  · rw [if_pos c2] at H
    have c2b0 : decide (4194304 < (a0.size : Int)) = true := decide_eq_true c2
    have c2b1 : decide (4194304 < a0.size) = true := decide_eq_true (by omega)
    clear c2
    simp only [Option.some.injEq, Prod.mk.injEq] at H
    obtain ⟨rfl, rfl, rfl⟩ := H
    go_enter Tryd.func10, Tryd.ntmps10
    go_wp2_with fail
    refine Go.wp_scope_straight ?_
    go_wp2_with fail
    simp only [Exit.noGoto, Exit.inBlock, Exit.then]
    refine bodyPost_ret (res3 (g := w.heap.size) _ rfl hcx) rfl ?_
    exact ⟨_, by first | rfl | (simp; done) | (simp [*]; done), Kd.S_nil _ _ _ _ _, by first | exact HBW.out | exact (HBW.out.setCell (p := ⟨w.heap.size, 0, none⟩) (Nat.le_refl _) _)⟩
  · rw [if_neg c2] at H
    have c2b0 : decide (4194304 < (a0.size : Int)) = false := decide_eq_false c2
    have c2b1 : decide (4194304 < a0.size) = false := decide_eq_false (by omega)
    clear c2
    have H' := Aside0.mk H
    clear H
    go_enter Tryd.func10, Tryd.ntmps10
    go_wp2_with fail
    refine Go.wp_scope_straight ?_
    go_wp2_with fail
    go_loopg [16] k (fun kq v16 w' => ∃ (x : Int), v16 = .int .i64 x ∧ Aside0 (lex_Lines.l0 kq a0 [] (a0.size : Int) x = some (r1, r2, r3)) ∧ Aside0 (kq ≤ k) ∧ w' = w.alloc (.cells #[.slice none 0 0] 23 (0, 0)))
    case atStart => exact ⟨0, by first | rfl | (simp; done) | (simp [*]; done), H', ⟨Nat.le_refl _⟩, rfl⟩
    case round =>
      clear H'
      obtain ⟨x, rfl, HA, HK1, rfl⟩ := hrel
      cases gk with
      | zero => exact absurd HA.out (by simp [lex_Lines.l0])
      | succ k1 =>
        have H := HA.out
        clear HA
        simp only [lex_Lines.l0] at H
        by_cases c3 : x < (a0.size : Int)
        · rw [if_pos c3] at H
          have c3b0 : decide (x < (a0.size : Int)) = true := decide_eq_true c3
          by_cases c4 : 0 ≤ x
          · rw [if_pos c4, if_pos c3] at H
            have p6 := c4
            have q6 := c3
            have hx6 := bt_at a0 x
            replace p6 := eq_true p6
            replace q6 := eq_true q6
            clear c3 c4
            by_cases c7 : (bt a0 x) = 9
            · rw [if_pos c7] at H
              have c7b0 : ((bt a0 x) == 9) = true := beq_iff_eq.mpr c7
              have c7b1 : ((bt a0 x) != 9) = false := bne_eq_false_iff_eq.mpr c7
              clear c7
              have H' := Aside0.mk H
              clear H
              go_wp2_with fail
              go_roundg k1
              case measure => omega
              case rel => exact ⟨wrap64 (x + 1), by first | rfl | (simp; done) | (simp [*]; done), H', ⟨by have := HK1.out; omega⟩, rfl⟩
            · rw [if_neg c7] at H
              have c7b0 : ((bt a0 x) == 9) = false := beq_eq_false_iff_ne.mpr c7
              have c7b1 : ((bt a0 x) != 9) = true := bne_iff_ne.mpr c7
              by_cases c8 : (bt a0 x) = 10
              · rw [if_pos c8] at H
                have c8b0 : ((bt a0 x) == 10) = true := beq_iff_eq.mpr c8
                have c8b1 : ((bt a0 x) != 10) = false := bne_eq_false_iff_eq.mpr c8
                clear c8
                have H' := Aside0.mk H
                clear H
                go_wp2_with fail
                go_roundg k1
                case measure => omega
                case rel => exact ⟨wrap64 (x + 1), by first | rfl | (simp; done) | (simp [*]; done), H', ⟨by have := HK1.out; omega⟩, rfl⟩
              · rw [if_neg c8] at H
                have c8b0 : ((bt a0 x) == 10) = false := beq_eq_false_iff_ne.mpr c8
                have c8b1 : ((bt a0 x) != 10) = true := bne_iff_ne.mpr c8
                by_cases c9 : (bt a0 x) < 32
                · rw [if_pos c9] at H
                  have c9b0 : decide ((bt a0 x) < 32) = true := decide_eq_true c9
                  clear c9
                  simp only [Option.some.injEq, Prod.mk.injEq] at H
                  obtain ⟨rfl, rfl, rfl⟩ := H
                  go_wp2_with fail
                  simp only [Exit.noGoto, Exit.inBlock, Exit.then]
                  have hcx' : ((w.alloc (.cells #[.slice none 0 0] 23 (0, 0))).setCell ⟨w.heap.size, 0, none⟩ (.slice none 0 0)).cell? ⟨w.heap.size, 0, none⟩ = some (.slice none 0 0) := blk_cell (blk_set (blk_new w (.cells #[.slice none 0 0] 23 (0, 0))) 0 (.slice none 0 0)) 0
                  refine bodyPost_ret (res3 (g := w.heap.size) _ rfl (by first | exact hcx' | exact hcx)) rfl ?_
                  exact ⟨_, by first | rfl | (simp; done) | (simp [*]; done), Kd.S_nil _ _ _ _ _, by first | exact HBW.out | exact (HBW.out.setCell (p := ⟨w.heap.size, 0, none⟩) (Nat.le_refl _) _)⟩
                · rw [if_neg c9] at H
                  have c9b0 : decide ((bt a0 x) < 32) = false := decide_eq_false c9
                  clear c9
                  by_cases c10 : (bt a0 x) > 126
                  · rw [if_pos c10] at H
                    have c10b0 : decide (126 < (bt a0 x)) = true := decide_eq_true c10
                    clear c10
                    simp only [Option.some.injEq, Prod.mk.injEq] at H
                    obtain ⟨rfl, rfl, rfl⟩ := H
                    go_wp2_with fail
                    simp only [Exit.noGoto, Exit.inBlock, Exit.then]
                    have hcx' : ((w.alloc (.cells #[.slice none 0 0] 23 (0, 0))).setCell ⟨w.heap.size, 0, none⟩ (.slice none 0 0)).cell? ⟨w.heap.size, 0, none⟩ = some (.slice none 0 0) := blk_cell (blk_set (blk_new w (.cells #[.slice none 0 0] 23 (0, 0))) 0 (.slice none 0 0)) 0
                    refine bodyPost_ret (res3 (g := w.heap.size) _ rfl (by first | exact hcx' | exact hcx)) rfl ?_
                    exact ⟨_, by first | rfl | (simp; done) | (simp [*]; done), Kd.S_nil _ _ _ _ _, by first | exact HBW.out | exact (HBW.out.setCell (p := ⟨w.heap.size, 0, none⟩) (Nat.le_refl _) _)⟩
                  · rw [if_neg c10] at H
                    have c10b0 : decide (126 < (bt a0 x)) = false := decide_eq_false c10
                    clear c10
                    have H' := Aside0.mk H
                    clear H
                    go_wp2_with fail
                    go_roundg k1
                    case measure => omega
                    case rel => exact ⟨wrap64 (x + 1), by first | rfl | (simp; done) | (simp [*]; done), H', ⟨by have := HK1.out; omega⟩, rfl⟩
          · rw [if_neg c4] at H
            exact absurd H (by simp)
        · rw [if_neg c3] at H
          have c3b0 : decide (x < (a0.size : Int)) = false := decide_eq_false c3
          clear c3
          have H' := Aside0.mk H
          clear H
          go_wp2_with fail
          refine wp_label ?_
          go_wp2_with fail
          go_loopg [9] k1 (fun kq v9 w' => ∃ (x2 : List S32) (x7 : List S35) (x9 : Int), v9 = .int .i64 x9 ∧ Aside0 (lex_Lines.l1 kq a0 x2 x7 x9 = some (r1, r2, r3)) ∧ Aside0 (kq ≤ k1) ∧ Aside0 (LexB w' w.heap.size w.heap.size (w.heap.size + 1) x2 x7) ∧ Aside0 (Below w.heap.size w w'))
          case atStart => exact ⟨[], [], 0, by first | rfl | (simp; done) | (simp [*]; done), H', ⟨Nat.le_refl _⟩, ⟨lexB_start w⟩, ⟨below_alloc HBW.out _⟩⟩
          case round =>
            clear H' c3b0 hcx hfx HBW
            obtain ⟨x2, x7, x9, rfl, HA, HK2, HX, HB⟩ := hrel
            cases gk with
            | zero => exact absurd HA.out (by simp [lex_Lines.l1])
            | succ k2 =>
              have H := HA.out
              clear HA
              simp only [lex_Lines.l1] at H
              by_cases c3 : x9 < (a0.size : Int)
              · rw [if_pos c3] at H
                have c3b0 : decide (x9 < (a0.size : Int)) = true := decide_eq_true c3
                by_cases c4 : 0 ≤ x9
                · rw [if_pos c4] at H
                  have p6 := c4
                  have q6 := c3
                  have hx6 := bt_at a0 x9
                  replace p6 := eq_true p6
                  replace q6 := eq_true q6
                  clear c3
                  have HP := Aside0.mk c4
                  clear c4
                  cases k2 with
                  | zero => exact absurd H (by split <;> simp [lex_Lines.j2])
                  | succ k3 =>
                    simp only [lex_Lines.j2] at H
                    by_cases c7 : (bt a0 x9) = 9
                    · rw [if_pos c7] at H
                      have c7b0 : ((bt a0 x9) == 9) = true := beq_iff_eq.mpr c7
                      rw [if_pos c7b0] at H
                      clear c7
                      have H' := Aside0.mk H
                      clear H
                      go_wp2_with fail
                      go_roundg k3
                      case measure => have := HK2.out; omega
                      case rel => exact ⟨x2, x7, (wrap64 (x9 + 1)), by first | rfl | (simp; done) | (simp [*]; done), H', ⟨by have := HK2.out; omega⟩, HX, HB⟩
                    · rw [if_neg c7] at H
                      have c7b0 : ((bt a0 x9) == 9) = false := beq_eq_false_iff_ne.mpr c7
                      by_cases c8 : (bt a0 x9) = 32
                      · have c8b0 : ((bt a0 x9) == 32) = true := beq_iff_eq.mpr c8
                        rw [if_pos c8b0] at H
                        clear c8
                        have H' := Aside0.mk H
                        clear H
                        go_wp2_with fail
                        go_roundg k3
                        case measure => have := HK2.out; omega
                        case rel => exact ⟨x2, x7, (wrap64 (x9 + 1)), by first | rfl | (simp; done) | (simp [*]; done), H', ⟨by have := HK2.out; omega⟩, HX, HB⟩
                      · have c8b0 : ((bt a0 x9) == 32) = false := beq_eq_false_iff_ne.mpr c8
                        rw [if_neg (by rw [c8b0]; simp)] at H
                        by_cases c9 : (bt a0 x9) = 10
                        · rw [if_pos c9] at H
                          have c9b0 : ((bt a0 x9) == 10) = true := beq_iff_eq.mpr c9
                          clear c9
                          by_cases hx7 : (x7.length : Int) > 0
                          · rw [if_pos hx7] at H
                            by_cases hl2 : x2.length < 5864062014805
                            · rw [if_pos hl2] at H
                              go_wp2_with fail
                              refine (done_ _ w.heap.size w.heap.size (w.heap.size + 1) x2 x7 HX.out (fun _ => hl2)).mono ?_
                              rintro e w1 ⟨rfl, hx1, hb1⟩
                              rw [if_pos (by omega)] at hx1
                              clear hx7 hl2
                              have H' := Aside0.mk H
                              have HX1 := Aside0.mk hx1
                              have HB1 := Aside0.mk (HB.out.trans hb1)
                              clear H hx1 hb1
                              go_wp2_with fail
                              go_roundg k3
                              case measure => have := HK2.out; omega
                              case rel => exact ⟨(x2 ++ [(⟨x7⟩ : S32)]), [], wrap64 (x9 + 1), by first | rfl | (simp; done) | (simp [*]; done), H', ⟨by have := HK2.out; omega⟩, HX1, HB1⟩
                            · rw [if_neg hl2] at H
                              exact absurd H (by simp)
                          · rw [if_neg hx7] at H
                            have hx70 : x7 = [] := List.eq_nil_of_length_eq_zero (by omega)
                            subst hx70
                            go_wp2_with fail
                            refine (done_ _ w.heap.size w.heap.size (w.heap.size + 1) x2 [] HX.out (fun h => absurd h (by simp))).mono ?_
                            rintro e w1 ⟨rfl, hx1, hb1⟩
                            rw [if_neg (by simp)] at hx1
                            clear hx7
                            have H' := Aside0.mk H
                            have HX1 := Aside0.mk hx1
                            have HB1 := Aside0.mk (HB.out.trans hb1)
                            clear H hx1 hb1
                            go_wp2_with fail
                            go_roundg k3
                            case measure => have := HK2.out; omega
                            case rel => exact ⟨x2, [], wrap64 (x9 + 1), by first | rfl | (simp; done) | (simp [*]; done), H', ⟨by have := HK2.out; omega⟩, HX1, HB1⟩
                        · rw [if_neg c9] at H
                          have c9b0 : ((bt a0 x9) == 10) = false := beq_eq_false_iff_ne.mpr c9
                          by_cases c10 : (bt a0 x9) = 35
                          · rw [if_pos c10] at H
                            have c10b0 : ((bt a0 x9) == 35) = true := beq_iff_eq.mpr c10
                            clear c10
                            have H' := Aside0.mk H
                            clear H
                            go_wp2_with fail
                            go_loopg [9] k3 (fun kq v9 w' => ∃ (y : Int), v9 = .int .i64 y ∧ Aside0 (lex_Lines.l2 kq a0 x2 x7 y = some (r1, r2, r3)) ∧ Aside0 (kq ≤ k3) ∧ Aside0 (LexB w' w.heap.size w.heap.size (w.heap.size + 1) x2 x7) ∧ Aside0 (Below w.heap.size w w'))
                            case atStart => exact ⟨x9, by first | rfl | (simp; done) | (simp [*]; done), H', ⟨Nat.le_refl _⟩, HX, HB⟩
                            case round =>
                              clear H' c3b0 p6 q6 hx6 c7b0 c8b0 c9b0 c10b0 HX HB HP
                              obtain ⟨y, rfl, HA, HK4, HX, HB⟩ := hrel
                              cases gk with
                              | zero => exact absurd HA.out (by simp [lex_Lines.l2])
                              | succ k4 =>
                                have H := HA.out
                                clear HA
                                simp only [lex_Lines.l2] at H
                                by_cases d3 : y < (a0.size : Int)
                                · rw [if_pos d3] at H
                                  have d3b0 : decide (y < (a0.size : Int)) = true := decide_eq_true d3
                                  by_cases d4 : 0 ≤ y
                                  · rw [if_pos d4] at H
                                    have p6 := d4
                                    have q6 := d3
                                    have hx6 := bt_at a0 y
                                    replace p6 := eq_true p6
                                    replace q6 := eq_true q6
                                    clear d3 d4
                                    by_cases d7 : (bt a0 y) = 10
                                    · rw [if_pos d7] at H
                                      have d7b0 : ((bt a0 y) == 10) = true := beq_iff_eq.mpr d7
                                      clear d7
                                      have H' := Aside0.mk H
                                      clear H
                                      go_wp2_with fail
                                      go_roundg k4
                                      case measure => have := HK2.out; have := HK4.out; omega
                                      case rel => exact ⟨x2, x7, y, by first | rfl | (simp; done) | (simp [*]; done), H', ⟨by have := HK2.out; have := HK4.out; omega⟩, HX, HB⟩
                                    · rw [if_neg d7] at H
                                      have d7b0 : ((bt a0 y) == 10) = false := beq_eq_false_iff_ne.mpr d7
                                      clear d7
                                      have H' := Aside0.mk H
                                      clear H
                                      go_wp2_with fail
                                      go_roundg k4
                                      case measure => omega
                                      case rel => exact ⟨wrap64 (y + 1), by first | rfl | (simp; done) | (simp [*]; done), H', ⟨by have := HK4.out; omega⟩, HX, HB⟩
                                  · rw [if_neg d4] at H
                                    exact absurd H (by simp)
                                · rw [if_neg d3] at H
                                  have d3b0 : decide (y < (a0.size : Int)) = false := decide_eq_false d3
                                  cases k4 with
                                  | zero => exact absurd H (by simp [lex_Lines.l1])
                                  | succ k5 =>
                                    simp only [lex_Lines.l1] at H
                                    rw [if_neg d3] at H
                                    clear d3
                                    by_cases hx7 : (x7.length : Int) > 0
                                    · rw [if_pos hx7] at H
                                      by_cases hl2 : x2.length < 5864062014805
                                      · rw [if_pos hl2] at H
                                        go_wp2_with fail
                                        refine (done_ _ w.heap.size w.heap.size (w.heap.size + 1) x2 x7 HX.out (fun _ => hl2)).mono ?_
                                        rintro e w1 ⟨rfl, hx1, hb1⟩
                                        rw [if_pos (by omega)] at hx1
                                        clear hx7 hl2
                                        simp only [Option.some.injEq, Prod.mk.injEq] at H
                                        obtain ⟨rfl, rfl, rfl⟩ := H
                                        obtain ⟨hne, v2, v7, hb2, hb7, hS, hR⟩ := hx1
                                        obtain ⟨A2, cc2, rfl⟩ := Kd.R_slice (Kd.S_R hS)
                                        have hcx := blk_cell hb2 0
                                        have hfx := blk_frozen hb2 0
                                        have HS2 := Aside0.mk hS
                                        have HBX := Aside0.mk hb2
                                        have HB1 := Aside0.mk hb1
                                        clear hS hR hb7 hb2 hb1
                                        go_wp2_with fail
                                        simp only [Exit.noGoto, Exit.inBlock, Exit.then]
                                        refine bodyPost_ret (res3 (g := w.heap.size) _ rfl (blk_cell (blk_set HBX.out 0 _) 0)) rfl ?_
                                        exact ⟨_, by first | rfl | (simp; done) | (simp [*]; done), Kd.S_mono (Kd.S_far (p := ⟨w.heap.size, 0, none⟩) HS2.out (fun k hk => hk.1.1) _) (fun _ _ => trivial), (HB.out.trans HB1.out).setCell (p := ⟨w.heap.size, 0, none⟩) (Nat.le_refl _) _⟩
                                      · rw [if_neg hl2] at H
                                        exact absurd H (by simp)
                                    · rw [if_neg hx7] at H
                                      have hx70 : x7 = [] := List.eq_nil_of_length_eq_zero (by omega)
                                      subst hx70
                                      go_wp2_with fail
                                      refine (done_ _ w.heap.size w.heap.size (w.heap.size + 1) x2 [] HX.out (fun h => absurd h (by simp))).mono ?_
                                      rintro e w1 ⟨rfl, hx1, hb1⟩
                                      rw [if_neg (by simp)] at hx1
                                      clear hx7
                                      simp only [Option.some.injEq, Prod.mk.injEq] at H
                                      obtain ⟨rfl, rfl, rfl⟩ := H
                                      obtain ⟨hne, v2, v7, hb2, hb7, hS, hR⟩ := hx1
                                      obtain ⟨A2, cc2, rfl⟩ := Kd.R_slice (Kd.S_R hS)
                                      have hcx := blk_cell hb2 0
                                      have hfx := blk_frozen hb2 0
                                      have HS2 := Aside0.mk hS
                                      have HBX := Aside0.mk hb2
                                      have HB1 := Aside0.mk hb1
                                      clear hS hR hb7 hb2 hb1
                                      go_wp2_with fail
                                      simp only [Exit.noGoto, Exit.inBlock, Exit.then]
                                      refine bodyPost_ret (res3 (g := w.heap.size) _ rfl (blk_cell (blk_set HBX.out 0 _) 0)) rfl ?_
                                      exact ⟨_, by first | rfl | (simp; done) | (simp [*]; done), Kd.S_mono (Kd.S_far (p := ⟨w.heap.size, 0, none⟩) HS2.out (fun k hk => hk.1.1) _) (fun _ _ => trivial), (HB.out.trans HB1.out).setCell (p := ⟨w.heap.size, 0, none⟩) (Nat.le_refl _) _⟩
                          · rw [if_neg c10] at H
                            have c10b0 : ((bt a0 x9) == 35) = false := beq_eq_false_iff_ne.mpr c10
                            clear c10
                            have H' := Aside0.mk H
                            clear H
                            go_wp2_with fail
                            go_loopg [9] k3 (fun kq v9 w' => ∃ (y : Int), v9 = .int .i64 y ∧ Aside0 (lex_Lines.l3 kq a0 x2 x7 y x9 = some (r1, r2, r3)) ∧ Aside0 (kq ≤ k3) ∧ Aside0 (LexB w' w.heap.size w.heap.size (w.heap.size + 1) x2 x7) ∧ Aside0 (Below w.heap.size w w'))
                            case atStart => exact ⟨x9, by first | rfl | (simp; done) | (simp [*]; done), H', ⟨Nat.le_refl _⟩, HX, HB⟩
                            case round =>
                              clear H' c3b0 p6 q6 hx6 c7b0 c8b0 c9b0 c10b0 HX HB
                              obtain ⟨y, rfl, HA, HK4, HX, HB⟩ := hrel
                              cases gk with
                              | zero => exact absurd HA.out (by simp [lex_Lines.l3])
                              | succ k4 =>
                                have H := HA.out
                                clear HA
                                simp only [lex_Lines.l3] at H
                                by_cases d3 : y < (a0.size : Int)
                                · rw [if_pos d3] at H
                                  have d3b0 : decide (y < (a0.size : Int)) = true := decide_eq_true d3
                                  by_cases d4 : 0 ≤ y
                                  · rw [if_pos d4] at H
                                    have p6 := d4
                                    have q6 := d3
                                    have hx6 := bt_at a0 y
                                    replace p6 := eq_true p6
                                    replace q6 := eq_true q6
                                    clear d3 d4
                                    by_cases f9 : (bt a0 y) = 9
                                    · rw [if_pos f9] at H
                                      have f9b0 : ((bt a0 y) != 9) = false := bne_eq_false_iff_eq.mpr f9
                                      clear f9
                                      by_cases e1 : 0 ≤ x9
                                      · rw [if_pos e1] at H
                                        by_cases e2 : x9 ≤ y
                                        · rw [if_pos e2] at H
                                          by_cases e3 : y ≤ (a0.size : Int)
                                          · rw [if_pos e3] at H
                                            by_cases e4 : x7.length < 5864062014805
                                            · rw [if_pos e4] at H
                                              have HE4 := Aside0.mk e4
                                              replace e1 := eq_true e1
                                              replace e2 := eq_true e2
                                              replace e3 := eq_true e3
                                              have H' := Aside0.mk H
                                              clear H e4
                                              obtain ⟨hne, v2, v7, hb2, hb7, hS, hR⟩ := HX.out
                                              obtain ⟨A7, cc7, rfl⟩ := Kd.R_slice hR
                                              have HN := Aside0.mk hne
                                              have HB2 := Aside0.mk hb2
                                              have HB7 := Aside0.mk hb7
                                              have HS := Aside0.mk hS
                                              have HR := Aside0.mk hR
                                              have HZ := Aside0.mk HX.out.size
                                              clear hne hb2 hb7 hS hR HX
                                              go_wp2_with fail
                                              refine start_ (n := 10) (S := fun w' => w'.heap[w.heap.size + 1]? = some (.cells #[.slice A7 x7.length cc7] 30 (0, 0))) (ds := [9]) #[false, false, false, false, false, false, false, false, false, false] (by kernel_rfl) rfl rfl (blk_drew HB7.out) (fun hHeld => ?_)
                                              refine take_ (i := 0) (N := (some 100)) (v := ?_) (a' := ?_) #[true, false, false, false, false, false, false, false, false, false] rfl rfl (by kernel_rfl) (fun _ _ _ h => h) (Or.inl ⟨by rfl, ?_⟩) hHeld ?_ ?_
                                              rotate_left
                                              · intro w' hS_
                                                have hcell_ := blk_cell hS_ 0
                                                go_simp
                                                with_reducible rfl
                                              rotate_left
                                              · simp only [Act.put, List.setIfInBounds_toArray, List.set_cons_zero, List.set_cons_succ, i64_w, i32_w]
                                                rfl
                                              refine pure_ (i := 1) (N := (some 101)) (v := ?_) (a' := ?_) #[true, true, false, false, false, false, false, false, false, false] rfl rfl (by kernel_rfl) (fun _ _ _ h => h) (Or.inl ⟨by rfl, ?_⟩) ?_ ?_
                                              rotate_left
                                              · intro w'
                                                go_simp
                                                with_reducible rfl
                                              rotate_left
                                              · simp only [Act.put, List.setIfInBounds_toArray, List.set_cons_zero, List.set_cons_succ, i64_w, i32_w]
                                                rfl
                                              refine pure_ (i := 2) (N := (some 102)) (v := ?_) (a' := ?_) #[true, true, true, false, false, false, false, false, false, false] rfl rfl (by kernel_rfl) (fun _ _ _ h => h) (Or.inl ⟨by rfl, ?_⟩) ?_ ?_
                                              rotate_left
                                              · intro w'
                                                go_simp
                                                with_reducible rfl
                                              rotate_left
                                              · simp only [Act.put, List.setIfInBounds_toArray, List.set_cons_zero, List.set_cons_succ, i64_w, i32_w]
                                                rfl
                                              refine pure_ (i := 3) (N := (some 103)) (v := ?_) (a' := ?_) #[true, true, true, true, false, false, false, false, false, false] rfl rfl (by kernel_rfl) (fun _ _ _ h => h) (Or.inl ⟨by rfl, ?_⟩) ?_ ?_
                                              rotate_left
                                              · intro w'
                                                go_simp
                                                with_reducible rfl
                                              rotate_left
                                              · simp only [Act.put, List.setIfInBounds_toArray, List.set_cons_zero, List.set_cons_succ, i64_w, i32_w]
                                                rfl
                                              refine pure_ (i := 4) (N := (some 104)) (v := ?_) (a' := ?_) #[true, true, true, true, true, false, false, false, false, false] rfl rfl (by kernel_rfl) (fun _ _ _ h => h) (Or.inl ⟨by rfl, ?_⟩) ?_ ?_
                                              rotate_left
                                              · intro w'
                                                go_simp
                                                with_reducible rfl
                                              rotate_left
                                              · simp only [Act.put, List.setIfInBounds_toArray, List.set_cons_zero, List.set_cons_succ, i64_w, i32_w]
                                                rfl
                                              refine pure_ (i := 5) (N := (some 105)) (v := ?_) (a' := ?_) #[true, true, true, true, true, true, false, false, false, false] rfl rfl (by kernel_rfl) (fun _ _ _ h => h) (Or.inl ⟨by rfl, ?_⟩) ?_ ?_
                                              rotate_left
                                              · intro w'
                                                go_simp
                                                with_reducible rfl
                                              rotate_left
                                              · simp only [Act.put, List.setIfInBounds_toArray, List.set_cons_zero, List.set_cons_succ, i64_w, i32_w]
                                                rfl
                                              refine pure_ (i := 6) (N := (some 106)) (v := ?_) (a' := ?_) #[true, true, true, true, true, true, true, false, false, false] rfl rfl (by kernel_rfl) (fun _ _ _ h => h) (Or.inl ⟨by rfl, ?_⟩) ?_ ?_
                                              rotate_left
                                              · intro w'
                                                go_simp
                                                with_reducible rfl
                                              rotate_left
                                              · simp only [Act.put, List.setIfInBounds_toArray, List.set_cons_zero, List.set_cons_succ, i64_w, i32_w]
                                                rfl
                                              refine one_ (i := 7) (N := (some 107)) #[true, true, true, true, true, true, true, true, false, false] rfl rfl (by kernel_rfl) (by decide) (fun K hK => ?_)
                                              refine value_ (w1 := ?_) (v := ?_) (by rfl) rfl ?_ ?_
                                              rotate_left 2
                                              · go_simp
                                                constructor
                                                · rfl
                                                · rfl
                                              refine hK.out _ _ (blk_alloc hHeld _) (fun hHeld => ?_)
                                              clear hK K
                                              refine norm_ (a' := ?_) ?_ ?_
                                              rotate_left
                                              · show Act.put _ (some 107) _ = _
                                                simp only [Act.put, List.setIfInBounds_toArray, List.set_cons_zero, List.set_cons_succ, i64_w, i32_w]
                                                rfl
                                              refine one_ (i := 8) (N := (some 108)) #[true, true, true, true, true, true, true, true, true, false] rfl rfl (by kernel_rfl) (by decide) (fun K hK => ?_)
                                              refine Kd.R_append_step k35 (w0 := wr) (W := wr.drew) w.heap.size rfl (.tmp 100) (.tmp 107) 30 35 (.agg #[(.string ⟨#[]⟩), (.int .i64 0)]) 24 rfl Tryd.underlying30 info35 rfl (by decide) (by omega) (.slice A7 x7.length cc7) x7 (⟨a0.extract (x9 : Int).toNat (y : Int).toNat, x9⟩ : S35) [.string (a0.extract (x9 : Int).toNat (y : Int).toNat), .int .i64 x9] (fun k => k ≠ w.heap.size ∧ k ≠ w.heap.size + 1) (fun _ => False) rfl rfl (k51_mkM _ _ _ (⟨a0.extract (x9 : Int).toNat (y : Int).toNat, x9⟩ : S35)) (fun _ hk => hk.elim) ?aF ?aO ?aB HZ.out ?aL ?_
                                              case aF => exact (fun k (hk : wr.heap.size ≤ k) => by have h1 := blk_lt HB2.out; have h2 := blk_lt HB7.out; omega)
                                              case aO => exact Kd.R_drew HR.out
                                              case aB => exact below_drewB w.heap.size wr
                                              case aL => have := HE4.out; omega
                                              intro v9 w2 ho hb hg hat
                                              obtain ⟨A9, cc9, e9⟩ := Kd.R_slice ho
                                              subst e9
                                              have HO9 := Aside0.mk ho
                                              have HB9 := Aside0.mk hb
                                              have hb2 : w2.heap[w.heap.size]? = some (.cells #[v2] 23 (0, 0)) := blk_grown (w := wr.drew) HB2.out hg (fun e => (HR.out.1 w.heap.size e.symm).1 rfl)
                                              have hHeld2 : w2.heap[w.heap.size + 1]? = some (.cells #[.slice A7 x7.length cc7] 30 (0, 0)) := blk_grown (w := wr.drew) HB7.out hg (fun e => (HR.out.1 (w.heap.size + 1) e.symm).2 rfl)
                                              have HX2 := Aside0.mk hb2
                                              have HS9 := Aside0.mk (Kd.S_after (W := wr.drew) (v1 := .slice A9 (x7 ++ [(⟨a0.extract (x9 : Int).toNat (y : Int).toNat, x9⟩ : S35)]).length cc9) (Kd.S_drew HS.out) hg hat)
                                              rw [List.length_append, List.length_singleton] at HO9 HS9
                                              clear ho hb hg hat hb2
                                              refine hK.out _ _ (hHeld2) (fun hHeld => ?_)
                                              clear hK K
                                              refine norm_ (a' := ?_) ?_ ?_
                                              rotate_left
                                              · show Act.put _ (some 108) _ = _
                                                simp only [Act.put, List.setIfInBounds_toArray, List.set_cons_zero, List.set_cons_succ, i64_w, i32_w]
                                                rfl
                                              refine last_ (i := 9) (N := none) #[true, true, true, true, true, true, true, true, true, true] rfl rfl (by kernel_rfl) (by decide) (fun K hK => ?_)
                                              have hc2 := blk_cell hHeld2 0
                                              have hf2 := blk_frozen hHeld2 0
                                              refine skip_ (w1 := w2.setCell ⟨w.heap.size + 1, 0, none⟩ (.slice A9 (x7.length + 1) cc9)) (by rfl) rfl ?_ ?_
                                              · go_simp
                                              refine hK.out _ _ ?_
                                              clear hK K
                                              refine Go.Proofs.YtggibjbcbicpjaaDoorW.PrintLast.done_ (by kernel_rfl) ?_
                                              have HXN : Aside0 (LexB (w2.setCell ⟨w.heap.size + 1, 0, none⟩ (.slice A9 (x7.length + 1) cc9)) w.heap.size w.heap.size (w.heap.size + 1) x2 (x7 ++ [(⟨a0.extract (x9 : Int).toNat (y : Int).toNat, x9⟩ : S35)])) := ⟨HN.out, _, _, blk_far (p := ⟨w.heap.size + 1, 0, none⟩) HX2.out HN.out.1 _, blk_put hHeld2 0 _ rfl, Kd.S_far (p := ⟨w.heap.size + 1, 0, none⟩) HS9.out (fun k hk => hk.1.2) _, Kd.R_far (p := ⟨w.heap.size + 1, 0, none⟩) HO9.out (fun k hk => hk.2) _⟩
                                              have HBN : Aside0 (Below w.heap.size w (w2.setCell ⟨w.heap.size + 1, 0, none⟩ (.slice A9 (x7.length + 1) cc9))) := ⟨(HB.out.trans HB9.out).setCell (p := ⟨w.heap.size + 1, 0, none⟩) (Nat.le_succ _) _⟩
                                              generalize w2.setCell ⟨w.heap.size + 1, 0, none⟩ (.slice A9 (x7.length + 1) cc9) = w3 at *
                                              clear hHeld hHeld2 HX2 HS9 HO9
                                              go_wp2_with fail
                                              go_roundg k4
                                              case measure => have := HK2.out; have := HK4.out; omega
                                              case rel => exact ⟨x2, x7 ++ [(⟨a0.extract (x9 : Int).toNat (y : Int).toNat, x9⟩ : S35)], y, by first | rfl | (simp; done) | (simp [*]; done), H', ⟨by have := HK2.out; have := HK4.out; omega⟩, HXN, HBN⟩
                                            · rw [if_neg e4] at H
                                              exact absurd H (by simp)
                                          · rw [if_neg e3] at H
                                            exact absurd H (by simp)
                                        · rw [if_neg e2] at H
                                          exact absurd H (by simp)
                                      · rw [if_neg e1] at H
                                        exact absurd H (by simp)
                                    · rw [if_neg f9] at H
                                      have f9b0 : ((bt a0 y) != 9) = true := bne_iff_ne.mpr f9
                                      clear f9
                                      by_cases f32 : (bt a0 y) = 32
                                      · rw [if_pos f32] at H
                                        have f32b0 : ((bt a0 y) != 32) = false := bne_eq_false_iff_eq.mpr f32
                                        clear f32
                                        by_cases e1 : 0 ≤ x9
                                        · rw [if_pos e1] at H
                                          by_cases e2 : x9 ≤ y
                                          · rw [if_pos e2] at H
                                            by_cases e3 : y ≤ (a0.size : Int)
                                            · rw [if_pos e3] at H
                                              by_cases e4 : x7.length < 5864062014805
                                              · rw [if_pos e4] at H
                                                have HE4 := Aside0.mk e4
                                                replace e1 := eq_true e1
                                                replace e2 := eq_true e2
                                                replace e3 := eq_true e3
                                                have H' := Aside0.mk H
                                                clear H e4
                                                obtain ⟨hne, v2, v7, hb2, hb7, hS, hR⟩ := HX.out
                                                obtain ⟨A7, cc7, rfl⟩ := Kd.R_slice hR
                                                have HN := Aside0.mk hne
                                                have HB2 := Aside0.mk hb2
                                                have HB7 := Aside0.mk hb7
                                                have HS := Aside0.mk hS
                                                have HR := Aside0.mk hR
                                                have HZ := Aside0.mk HX.out.size
                                                clear hne hb2 hb7 hS hR HX
                                                go_wp2_with fail
                                                refine start_ (n := 10) (S := fun w' => w'.heap[w.heap.size + 1]? = some (.cells #[.slice A7 x7.length cc7] 30 (0, 0))) (ds := [9]) #[false, false, false, false, false, false, false, false, false, false] (by kernel_rfl) rfl rfl (blk_drew HB7.out) (fun hHeld => ?_)
                                                refine take_ (i := 0) (N := (some 100)) (v := ?_) (a' := ?_) #[true, false, false, false, false, false, false, false, false, false] rfl rfl (by kernel_rfl) (fun _ _ _ h => h) (Or.inl ⟨by rfl, ?_⟩) hHeld ?_ ?_
                                                rotate_left
                                                · intro w' hS_
                                                  have hcell_ := blk_cell hS_ 0
                                                  go_simp
                                                  with_reducible rfl
                                                rotate_left
                                                · simp only [Act.put, List.setIfInBounds_toArray, List.set_cons_zero, List.set_cons_succ, i64_w, i32_w]
                                                  rfl
                                                refine pure_ (i := 1) (N := (some 101)) (v := ?_) (a' := ?_) #[true, true, false, false, false, false, false, false, false, false] rfl rfl (by kernel_rfl) (fun _ _ _ h => h) (Or.inl ⟨by rfl, ?_⟩) ?_ ?_
                                                rotate_left
                                                · intro w'
                                                  go_simp
                                                  with_reducible rfl
                                                rotate_left
                                                · simp only [Act.put, List.setIfInBounds_toArray, List.set_cons_zero, List.set_cons_succ, i64_w, i32_w]
                                                  rfl
                                                refine pure_ (i := 2) (N := (some 102)) (v := ?_) (a' := ?_) #[true, true, true, false, false, false, false, false, false, false] rfl rfl (by kernel_rfl) (fun _ _ _ h => h) (Or.inl ⟨by rfl, ?_⟩) ?_ ?_
                                                rotate_left
                                                · intro w'
                                                  go_simp
                                                  with_reducible rfl
                                                rotate_left
                                                · simp only [Act.put, List.setIfInBounds_toArray, List.set_cons_zero, List.set_cons_succ, i64_w, i32_w]
                                                  rfl
                                                refine pure_ (i := 3) (N := (some 103)) (v := ?_) (a' := ?_) #[true, true, true, true, false, false, false, false, false, false] rfl rfl (by kernel_rfl) (fun _ _ _ h => h) (Or.inl ⟨by rfl, ?_⟩) ?_ ?_
                                                rotate_left
                                                · intro w'
                                                  go_simp
                                                  with_reducible rfl
                                                rotate_left
                                                · simp only [Act.put, List.setIfInBounds_toArray, List.set_cons_zero, List.set_cons_succ, i64_w, i32_w]
                                                  rfl
                                                refine pure_ (i := 4) (N := (some 104)) (v := ?_) (a' := ?_) #[true, true, true, true, true, false, false, false, false, false] rfl rfl (by kernel_rfl) (fun _ _ _ h => h) (Or.inl ⟨by rfl, ?_⟩) ?_ ?_
                                                rotate_left
                                                · intro w'
                                                  go_simp
                                                  with_reducible rfl
                                                rotate_left
                                                · simp only [Act.put, List.setIfInBounds_toArray, List.set_cons_zero, List.set_cons_succ, i64_w, i32_w]
                                                  rfl
                                                refine pure_ (i := 5) (N := (some 105)) (v := ?_) (a' := ?_) #[true, true, true, true, true, true, false, false, false, false] rfl rfl (by kernel_rfl) (fun _ _ _ h => h) (Or.inl ⟨by rfl, ?_⟩) ?_ ?_
                                                rotate_left
                                                · intro w'
                                                  go_simp
                                                  with_reducible rfl
                                                rotate_left
                                                · simp only [Act.put, List.setIfInBounds_toArray, List.set_cons_zero, List.set_cons_succ, i64_w, i32_w]
                                                  rfl
                                                refine pure_ (i := 6) (N := (some 106)) (v := ?_) (a' := ?_) #[true, true, true, true, true, true, true, false, false, false] rfl rfl (by kernel_rfl) (fun _ _ _ h => h) (Or.inl ⟨by rfl, ?_⟩) ?_ ?_
                                                rotate_left
                                                · intro w'
                                                  go_simp
                                                  with_reducible rfl
                                                rotate_left
                                                · simp only [Act.put, List.setIfInBounds_toArray, List.set_cons_zero, List.set_cons_succ, i64_w, i32_w]
                                                  rfl
                                                refine one_ (i := 7) (N := (some 107)) #[true, true, true, true, true, true, true, true, false, false] rfl rfl (by kernel_rfl) (by decide) (fun K hK => ?_)
                                                refine value_ (w1 := ?_) (v := ?_) (by rfl) rfl ?_ ?_
                                                rotate_left 2
                                                · go_simp
                                                  constructor
                                                  · rfl
                                                  · rfl
                                                refine hK.out _ _ (blk_alloc hHeld _) (fun hHeld => ?_)
                                                clear hK K
                                                refine norm_ (a' := ?_) ?_ ?_
                                                rotate_left
                                                · show Act.put _ (some 107) _ = _
                                                  simp only [Act.put, List.setIfInBounds_toArray, List.set_cons_zero, List.set_cons_succ, i64_w, i32_w]
                                                  rfl
                                                refine one_ (i := 8) (N := (some 108)) #[true, true, true, true, true, true, true, true, true, false] rfl rfl (by kernel_rfl) (by decide) (fun K hK => ?_)
                                                refine Kd.R_append_step k35 (w0 := wr) (W := wr.drew) w.heap.size rfl (.tmp 100) (.tmp 107) 30 35 (.agg #[(.string ⟨#[]⟩), (.int .i64 0)]) 24 rfl Tryd.underlying30 info35 rfl (by decide) (by omega) (.slice A7 x7.length cc7) x7 (⟨a0.extract (x9 : Int).toNat (y : Int).toNat, x9⟩ : S35) [.string (a0.extract (x9 : Int).toNat (y : Int).toNat), .int .i64 x9] (fun k => k ≠ w.heap.size ∧ k ≠ w.heap.size + 1) (fun _ => False) rfl rfl (k51_mkM _ _ _ (⟨a0.extract (x9 : Int).toNat (y : Int).toNat, x9⟩ : S35)) (fun _ hk => hk.elim) ?aF ?aO ?aB HZ.out ?aL ?_
                                                case aF => exact (fun k (hk : wr.heap.size ≤ k) => by have h1 := blk_lt HB2.out; have h2 := blk_lt HB7.out; omega)
                                                case aO => exact Kd.R_drew HR.out
                                                case aB => exact below_drewB w.heap.size wr
                                                case aL => have := HE4.out; omega
                                                intro v9 w2 ho hb hg hat
                                                obtain ⟨A9, cc9, e9⟩ := Kd.R_slice ho
                                                subst e9
                                                have HO9 := Aside0.mk ho
                                                have HB9 := Aside0.mk hb
                                                have hb2 : w2.heap[w.heap.size]? = some (.cells #[v2] 23 (0, 0)) := blk_grown (w := wr.drew) HB2.out hg (fun e => (HR.out.1 w.heap.size e.symm).1 rfl)
                                                have hHeld2 : w2.heap[w.heap.size + 1]? = some (.cells #[.slice A7 x7.length cc7] 30 (0, 0)) := blk_grown (w := wr.drew) HB7.out hg (fun e => (HR.out.1 (w.heap.size + 1) e.symm).2 rfl)
                                                have HX2 := Aside0.mk hb2
                                                have HS9 := Aside0.mk (Kd.S_after (W := wr.drew) (v1 := .slice A9 (x7 ++ [(⟨a0.extract (x9 : Int).toNat (y : Int).toNat, x9⟩ : S35)]).length cc9) (Kd.S_drew HS.out) hg hat)
                                                rw [List.length_append, List.length_singleton] at HO9 HS9
                                                clear ho hb hg hat hb2
                                                refine hK.out _ _ (hHeld2) (fun hHeld => ?_)
                                                clear hK K
                                                refine norm_ (a' := ?_) ?_ ?_
                                                rotate_left
                                                · show Act.put _ (some 108) _ = _
                                                  simp only [Act.put, List.setIfInBounds_toArray, List.set_cons_zero, List.set_cons_succ, i64_w, i32_w]
                                                  rfl
                                                refine last_ (i := 9) (N := none) #[true, true, true, true, true, true, true, true, true, true] rfl rfl (by kernel_rfl) (by decide) (fun K hK => ?_)
                                                have hc2 := blk_cell hHeld2 0
                                                have hf2 := blk_frozen hHeld2 0
                                                refine skip_ (w1 := w2.setCell ⟨w.heap.size + 1, 0, none⟩ (.slice A9 (x7.length + 1) cc9)) (by rfl) rfl ?_ ?_
                                                · go_simp
                                                refine hK.out _ _ ?_
                                                clear hK K
                                                refine Go.Proofs.YtggibjbcbicpjaaDoorW.PrintLast.done_ (by kernel_rfl) ?_
                                                have HXN : Aside0 (LexB (w2.setCell ⟨w.heap.size + 1, 0, none⟩ (.slice A9 (x7.length + 1) cc9)) w.heap.size w.heap.size (w.heap.size + 1) x2 (x7 ++ [(⟨a0.extract (x9 : Int).toNat (y : Int).toNat, x9⟩ : S35)])) := ⟨HN.out, _, _, blk_far (p := ⟨w.heap.size + 1, 0, none⟩) HX2.out HN.out.1 _, blk_put hHeld2 0 _ rfl, Kd.S_far (p := ⟨w.heap.size + 1, 0, none⟩) HS9.out (fun k hk => hk.1.2) _, Kd.R_far (p := ⟨w.heap.size + 1, 0, none⟩) HO9.out (fun k hk => hk.2) _⟩
                                                have HBN : Aside0 (Below w.heap.size w (w2.setCell ⟨w.heap.size + 1, 0, none⟩ (.slice A9 (x7.length + 1) cc9))) := ⟨(HB.out.trans HB9.out).setCell (p := ⟨w.heap.size + 1, 0, none⟩) (Nat.le_succ _) _⟩
                                                generalize w2.setCell ⟨w.heap.size + 1, 0, none⟩ (.slice A9 (x7.length + 1) cc9) = w3 at *
                                                clear hHeld hHeld2 HX2 HS9 HO9
                                                go_wp2_with fail
                                                go_roundg k4
                                                case measure => have := HK2.out; have := HK4.out; omega
                                                case rel => exact ⟨x2, x7 ++ [(⟨a0.extract (x9 : Int).toNat (y : Int).toNat, x9⟩ : S35)], y, by first | rfl | (simp; done) | (simp [*]; done), H', ⟨by have := HK2.out; have := HK4.out; omega⟩, HXN, HBN⟩
                                              · rw [if_neg e4] at H
                                                exact absurd H (by simp)
                                            · rw [if_neg e3] at H
                                              exact absurd H (by simp)
                                          · rw [if_neg e2] at H
                                            exact absurd H (by simp)
                                        · rw [if_neg e1] at H
                                          exact absurd H (by simp)
                                      · rw [if_neg f32] at H
                                        have f32b0 : ((bt a0 y) != 32) = true := bne_iff_ne.mpr f32
                                        clear f32
                                        by_cases f10 : (bt a0 y) = 10
                                        · rw [if_pos f10] at H
                                          have f10b0 : ((bt a0 y) != 10) = false := bne_eq_false_iff_eq.mpr f10
                                          clear f10
                                          by_cases e1 : 0 ≤ x9
                                          · rw [if_pos e1] at H
                                            by_cases e2 : x9 ≤ y
                                            · rw [if_pos e2] at H
                                              by_cases e3 : y ≤ (a0.size : Int)
                                              · rw [if_pos e3] at H
                                                by_cases e4 : x7.length < 5864062014805
                                                · rw [if_pos e4] at H
                                                  have HE4 := Aside0.mk e4
                                                  replace e1 := eq_true e1
                                                  replace e2 := eq_true e2
                                                  replace e3 := eq_true e3
                                                  have H' := Aside0.mk H
                                                  clear H e4
                                                  obtain ⟨hne, v2, v7, hb2, hb7, hS, hR⟩ := HX.out
                                                  obtain ⟨A7, cc7, rfl⟩ := Kd.R_slice hR
                                                  have HN := Aside0.mk hne
                                                  have HB2 := Aside0.mk hb2
                                                  have HB7 := Aside0.mk hb7
                                                  have HS := Aside0.mk hS
                                                  have HR := Aside0.mk hR
                                                  have HZ := Aside0.mk HX.out.size
                                                  clear hne hb2 hb7 hS hR HX
                                                  go_wp2_with fail
                                                  refine start_ (n := 10) (S := fun w' => w'.heap[w.heap.size + 1]? = some (.cells #[.slice A7 x7.length cc7] 30 (0, 0))) (ds := [9]) #[false, false, false, false, false, false, false, false, false, false] (by kernel_rfl) rfl rfl (blk_drew HB7.out) (fun hHeld => ?_)
                                                  refine take_ (i := 0) (N := (some 100)) (v := ?_) (a' := ?_) #[true, false, false, false, false, false, false, false, false, false] rfl rfl (by kernel_rfl) (fun _ _ _ h => h) (Or.inl ⟨by rfl, ?_⟩) hHeld ?_ ?_
                                                  rotate_left
                                                  · intro w' hS_
                                                    have hcell_ := blk_cell hS_ 0
                                                    go_simp
                                                    with_reducible rfl
                                                  rotate_left
                                                  · simp only [Act.put, List.setIfInBounds_toArray, List.set_cons_zero, List.set_cons_succ, i64_w, i32_w]
                                                    rfl
                                                  refine pure_ (i := 1) (N := (some 101)) (v := ?_) (a' := ?_) #[true, true, false, false, false, false, false, false, false, false] rfl rfl (by kernel_rfl) (fun _ _ _ h => h) (Or.inl ⟨by rfl, ?_⟩) ?_ ?_
                                                  rotate_left
                                                  · intro w'
                                                    go_simp
                                                    with_reducible rfl
                                                  rotate_left
                                                  · simp only [Act.put, List.setIfInBounds_toArray, List.set_cons_zero, List.set_cons_succ, i64_w, i32_w]
                                                    rfl
                                                  refine pure_ (i := 2) (N := (some 102)) (v := ?_) (a' := ?_) #[true, true, true, false, false, false, false, false, false, false] rfl rfl (by kernel_rfl) (fun _ _ _ h => h) (Or.inl ⟨by rfl, ?_⟩) ?_ ?_
                                                  rotate_left
                                                  · intro w'
                                                    go_simp
                                                    with_reducible rfl
                                                  rotate_left
                                                  · simp only [Act.put, List.setIfInBounds_toArray, List.set_cons_zero, List.set_cons_succ, i64_w, i32_w]
                                                    rfl
                                                  refine pure_ (i := 3) (N := (some 103)) (v := ?_) (a' := ?_) #[true, true, true, true, false, false, false, false, false, false] rfl rfl (by kernel_rfl) (fun _ _ _ h => h) (Or.inl ⟨by rfl, ?_⟩) ?_ ?_
                                                  rotate_left
                                                  · intro w'
                                                    go_simp
                                                    with_reducible rfl
                                                  rotate_left
                                                  · simp only [Act.put, List.setIfInBounds_toArray, List.set_cons_zero, List.set_cons_succ, i64_w, i32_w]
                                                    rfl
                                                  refine pure_ (i := 4) (N := (some 104)) (v := ?_) (a' := ?_) #[true, true, true, true, true, false, false, false, false, false] rfl rfl (by kernel_rfl) (fun _ _ _ h => h) (Or.inl ⟨by rfl, ?_⟩) ?_ ?_
                                                  rotate_left
                                                  · intro w'
                                                    go_simp
                                                    with_reducible rfl
                                                  rotate_left
                                                  · simp only [Act.put, List.setIfInBounds_toArray, List.set_cons_zero, List.set_cons_succ, i64_w, i32_w]
                                                    rfl
                                                  refine pure_ (i := 5) (N := (some 105)) (v := ?_) (a' := ?_) #[true, true, true, true, true, true, false, false, false, false] rfl rfl (by kernel_rfl) (fun _ _ _ h => h) (Or.inl ⟨by rfl, ?_⟩) ?_ ?_
                                                  rotate_left
                                                  · intro w'
                                                    go_simp
                                                    with_reducible rfl
                                                  rotate_left
                                                  · simp only [Act.put, List.setIfInBounds_toArray, List.set_cons_zero, List.set_cons_succ, i64_w, i32_w]
                                                    rfl
                                                  refine pure_ (i := 6) (N := (some 106)) (v := ?_) (a' := ?_) #[true, true, true, true, true, true, true, false, false, false] rfl rfl (by kernel_rfl) (fun _ _ _ h => h) (Or.inl ⟨by rfl, ?_⟩) ?_ ?_
                                                  rotate_left
                                                  · intro w'
                                                    go_simp
                                                    with_reducible rfl
                                                  rotate_left
                                                  · simp only [Act.put, List.setIfInBounds_toArray, List.set_cons_zero, List.set_cons_succ, i64_w, i32_w]
                                                    rfl
                                                  refine one_ (i := 7) (N := (some 107)) #[true, true, true, true, true, true, true, true, false, false] rfl rfl (by kernel_rfl) (by decide) (fun K hK => ?_)
                                                  refine value_ (w1 := ?_) (v := ?_) (by rfl) rfl ?_ ?_
                                                  rotate_left 2
                                                  · go_simp
                                                    constructor
                                                    · rfl
                                                    · rfl
                                                  refine hK.out _ _ (blk_alloc hHeld _) (fun hHeld => ?_)
                                                  clear hK K
                                                  refine norm_ (a' := ?_) ?_ ?_
                                                  rotate_left
                                                  · show Act.put _ (some 107) _ = _
                                                    simp only [Act.put, List.setIfInBounds_toArray, List.set_cons_zero, List.set_cons_succ, i64_w, i32_w]
                                                    rfl
                                                  refine one_ (i := 8) (N := (some 108)) #[true, true, true, true, true, true, true, true, true, false] rfl rfl (by kernel_rfl) (by decide) (fun K hK => ?_)
                                                  refine Kd.R_append_step k35 (w0 := wr) (W := wr.drew) w.heap.size rfl (.tmp 100) (.tmp 107) 30 35 (.agg #[(.string ⟨#[]⟩), (.int .i64 0)]) 24 rfl Tryd.underlying30 info35 rfl (by decide) (by omega) (.slice A7 x7.length cc7) x7 (⟨a0.extract (x9 : Int).toNat (y : Int).toNat, x9⟩ : S35) [.string (a0.extract (x9 : Int).toNat (y : Int).toNat), .int .i64 x9] (fun k => k ≠ w.heap.size ∧ k ≠ w.heap.size + 1) (fun _ => False) rfl rfl (k51_mkM _ _ _ (⟨a0.extract (x9 : Int).toNat (y : Int).toNat, x9⟩ : S35)) (fun _ hk => hk.elim) ?aF ?aO ?aB HZ.out ?aL ?_
                                                  case aF => exact (fun k (hk : wr.heap.size ≤ k) => by have h1 := blk_lt HB2.out; have h2 := blk_lt HB7.out; omega)
                                                  case aO => exact Kd.R_drew HR.out
                                                  case aB => exact below_drewB w.heap.size wr
                                                  case aL => have := HE4.out; omega
                                                  intro v9 w2 ho hb hg hat
                                                  obtain ⟨A9, cc9, e9⟩ := Kd.R_slice ho
                                                  subst e9
                                                  have HO9 := Aside0.mk ho
                                                  have HB9 := Aside0.mk hb
                                                  have hb2 : w2.heap[w.heap.size]? = some (.cells #[v2] 23 (0, 0)) := blk_grown (w := wr.drew) HB2.out hg (fun e => (HR.out.1 w.heap.size e.symm).1 rfl)
                                                  have hHeld2 : w2.heap[w.heap.size + 1]? = some (.cells #[.slice A7 x7.length cc7] 30 (0, 0)) := blk_grown (w := wr.drew) HB7.out hg (fun e => (HR.out.1 (w.heap.size + 1) e.symm).2 rfl)
                                                  have HX2 := Aside0.mk hb2
                                                  have HS9 := Aside0.mk (Kd.S_after (W := wr.drew) (v1 := .slice A9 (x7 ++ [(⟨a0.extract (x9 : Int).toNat (y : Int).toNat, x9⟩ : S35)]).length cc9) (Kd.S_drew HS.out) hg hat)
                                                  rw [List.length_append, List.length_singleton] at HO9 HS9
                                                  clear ho hb hg hat hb2
                                                  refine hK.out _ _ (hHeld2) (fun hHeld => ?_)
                                                  clear hK K
                                                  refine norm_ (a' := ?_) ?_ ?_
                                                  rotate_left
                                                  · show Act.put _ (some 108) _ = _
                                                    simp only [Act.put, List.setIfInBounds_toArray, List.set_cons_zero, List.set_cons_succ, i64_w, i32_w]
                                                    rfl
                                                  refine last_ (i := 9) (N := none) #[true, true, true, true, true, true, true, true, true, true] rfl rfl (by kernel_rfl) (by decide) (fun K hK => ?_)
                                                  have hc2 := blk_cell hHeld2 0
                                                  have hf2 := blk_frozen hHeld2 0
                                                  refine skip_ (w1 := w2.setCell ⟨w.heap.size + 1, 0, none⟩ (.slice A9 (x7.length + 1) cc9)) (by rfl) rfl ?_ ?_
                                                  · go_simp
                                                  refine hK.out _ _ ?_
                                                  clear hK K
                                                  refine Go.Proofs.YtggibjbcbicpjaaDoorW.PrintLast.done_ (by kernel_rfl) ?_
                                                  have HXN : Aside0 (LexB (w2.setCell ⟨w.heap.size + 1, 0, none⟩ (.slice A9 (x7.length + 1) cc9)) w.heap.size w.heap.size (w.heap.size + 1) x2 (x7 ++ [(⟨a0.extract (x9 : Int).toNat (y : Int).toNat, x9⟩ : S35)])) := ⟨HN.out, _, _, blk_far (p := ⟨w.heap.size + 1, 0, none⟩) HX2.out HN.out.1 _, blk_put hHeld2 0 _ rfl, Kd.S_far (p := ⟨w.heap.size + 1, 0, none⟩) HS9.out (fun k hk => hk.1.2) _, Kd.R_far (p := ⟨w.heap.size + 1, 0, none⟩) HO9.out (fun k hk => hk.2) _⟩
                                                  have HBN : Aside0 (Below w.heap.size w (w2.setCell ⟨w.heap.size + 1, 0, none⟩ (.slice A9 (x7.length + 1) cc9))) := ⟨(HB.out.trans HB9.out).setCell (p := ⟨w.heap.size + 1, 0, none⟩) (Nat.le_succ _) _⟩
                                                  generalize w2.setCell ⟨w.heap.size + 1, 0, none⟩ (.slice A9 (x7.length + 1) cc9) = w3 at *
                                                  clear hHeld hHeld2 HX2 HS9 HO9
                                                  go_wp2_with fail
                                                  go_roundg k4
                                                  case measure => have := HK2.out; have := HK4.out; omega
                                                  case rel => exact ⟨x2, x7 ++ [(⟨a0.extract (x9 : Int).toNat (y : Int).toNat, x9⟩ : S35)], y, by first | rfl | (simp; done) | (simp [*]; done), H', ⟨by have := HK2.out; have := HK4.out; omega⟩, HXN, HBN⟩
                                                · rw [if_neg e4] at H
                                                  exact absurd H (by simp)
                                              · rw [if_neg e3] at H
                                                exact absurd H (by simp)
                                            · rw [if_neg e2] at H
                                              exact absurd H (by simp)
                                          · rw [if_neg e1] at H
                                            exact absurd H (by simp)
                                        · rw [if_neg f10] at H
                                          have f10b0 : ((bt a0 y) != 10) = true := bne_iff_ne.mpr f10
                                          clear f10
                                          by_cases f35 : (bt a0 y) = 35
                                          · rw [if_pos f35] at H
                                            have f35b0 : ((bt a0 y) != 35) = false := bne_eq_false_iff_eq.mpr f35
                                            clear f35
                                            by_cases e1 : 0 ≤ x9
                                            · rw [if_pos e1] at H
                                              by_cases e2 : x9 ≤ y
                                              · rw [if_pos e2] at H
                                                by_cases e3 : y ≤ (a0.size : Int)
                                                · rw [if_pos e3] at H
                                                  by_cases e4 : x7.length < 5864062014805
                                                  · rw [if_pos e4] at H
                                                    have HE4 := Aside0.mk e4
                                                    replace e1 := eq_true e1
                                                    replace e2 := eq_true e2
                                                    replace e3 := eq_true e3
                                                    have H' := Aside0.mk H
                                                    clear H e4
                                                    obtain ⟨hne, v2, v7, hb2, hb7, hS, hR⟩ := HX.out
                                                    obtain ⟨A7, cc7, rfl⟩ := Kd.R_slice hR
                                                    have HN := Aside0.mk hne
                                                    have HB2 := Aside0.mk hb2
                                                    have HB7 := Aside0.mk hb7
                                                    have HS := Aside0.mk hS
                                                    have HR := Aside0.mk hR
                                                    have HZ := Aside0.mk HX.out.size
                                                    clear hne hb2 hb7 hS hR HX
                                                    go_wp2_with fail
                                                    refine start_ (n := 10) (S := fun w' => w'.heap[w.heap.size + 1]? = some (.cells #[.slice A7 x7.length cc7] 30 (0, 0))) (ds := [9]) #[false, false, false, false, false, false, false, false, false, false] (by kernel_rfl) rfl rfl (blk_drew HB7.out) (fun hHeld => ?_)
                                                    refine take_ (i := 0) (N := (some 100)) (v := ?_) (a' := ?_) #[true, false, false, false, false, false, false, false, false, false] rfl rfl (by kernel_rfl) (fun _ _ _ h => h) (Or.inl ⟨by rfl, ?_⟩) hHeld ?_ ?_
                                                    rotate_left
                                                    · intro w' hS_
                                                      have hcell_ := blk_cell hS_ 0
                                                      go_simp
                                                      with_reducible rfl
                                                    rotate_left
                                                    · simp only [Act.put, List.setIfInBounds_toArray, List.set_cons_zero, List.set_cons_succ, i64_w, i32_w]
                                                      rfl
                                                    refine pure_ (i := 1) (N := (some 101)) (v := ?_) (a' := ?_) #[true, true, false, false, false, false, false, false, false, false] rfl rfl (by kernel_rfl) (fun _ _ _ h => h) (Or.inl ⟨by rfl, ?_⟩) ?_ ?_
                                                    rotate_left
                                                    · intro w'
                                                      go_simp
                                                      with_reducible rfl
                                                    rotate_left
                                                    · simp only [Act.put, List.setIfInBounds_toArray, List.set_cons_zero, List.set_cons_succ, i64_w, i32_w]
                                                      rfl
                                                    refine pure_ (i := 2) (N := (some 102)) (v := ?_) (a' := ?_) #[true, true, true, false, false, false, false, false, false, false] rfl rfl (by kernel_rfl) (fun _ _ _ h => h) (Or.inl ⟨by rfl, ?_⟩) ?_ ?_
                                                    rotate_left
                                                    · intro w'
                                                      go_simp
                                                      with_reducible rfl
                                                    rotate_left
                                                    · simp only [Act.put, List.setIfInBounds_toArray, List.set_cons_zero, List.set_cons_succ, i64_w, i32_w]
                                                      rfl
                                                    refine pure_ (i := 3) (N := (some 103)) (v := ?_) (a' := ?_) #[true, true, true, true, false, false, false, false, false, false] rfl rfl (by kernel_rfl) (fun _ _ _ h => h) (Or.inl ⟨by rfl, ?_⟩) ?_ ?_
                                                    rotate_left
                                                    · intro w'
                                                      go_simp
                                                      with_reducible rfl
                                                    rotate_left
                                                    · simp only [Act.put, List.setIfInBounds_toArray, List.set_cons_zero, List.set_cons_succ, i64_w, i32_w]
                                                      rfl
                                                    refine pure_ (i := 4) (N := (some 104)) (v := ?_) (a' := ?_) #[true, true, true, true, true, false, false, false, false, false] rfl rfl (by kernel_rfl) (fun _ _ _ h => h) (Or.inl ⟨by rfl, ?_⟩) ?_ ?_
                                                    rotate_left
                                                    · intro w'
                                                      go_simp
                                                      with_reducible rfl
                                                    rotate_left
                                                    · simp only [Act.put, List.setIfInBounds_toArray, List.set_cons_zero, List.set_cons_succ, i64_w, i32_w]
                                                      rfl
                                                    refine pure_ (i := 5) (N := (some 105)) (v := ?_) (a' := ?_) #[true, true, true, true, true, true, false, false, false, false] rfl rfl (by kernel_rfl) (fun _ _ _ h => h) (Or.inl ⟨by rfl, ?_⟩) ?_ ?_
                                                    rotate_left
                                                    · intro w'
                                                      go_simp
                                                      with_reducible rfl
                                                    rotate_left
                                                    · simp only [Act.put, List.setIfInBounds_toArray, List.set_cons_zero, List.set_cons_succ, i64_w, i32_w]
                                                      rfl
                                                    refine pure_ (i := 6) (N := (some 106)) (v := ?_) (a' := ?_) #[true, true, true, true, true, true, true, false, false, false] rfl rfl (by kernel_rfl) (fun _ _ _ h => h) (Or.inl ⟨by rfl, ?_⟩) ?_ ?_
                                                    rotate_left
                                                    · intro w'
                                                      go_simp
                                                      with_reducible rfl
                                                    rotate_left
                                                    · simp only [Act.put, List.setIfInBounds_toArray, List.set_cons_zero, List.set_cons_succ, i64_w, i32_w]
                                                      rfl
                                                    refine one_ (i := 7) (N := (some 107)) #[true, true, true, true, true, true, true, true, false, false] rfl rfl (by kernel_rfl) (by decide) (fun K hK => ?_)
                                                    refine value_ (w1 := ?_) (v := ?_) (by rfl) rfl ?_ ?_
                                                    rotate_left 2
                                                    · go_simp
                                                      constructor
                                                      · rfl
                                                      · rfl
                                                    refine hK.out _ _ (blk_alloc hHeld _) (fun hHeld => ?_)
                                                    clear hK K
                                                    refine norm_ (a' := ?_) ?_ ?_
                                                    rotate_left
                                                    · show Act.put _ (some 107) _ = _
                                                      simp only [Act.put, List.setIfInBounds_toArray, List.set_cons_zero, List.set_cons_succ, i64_w, i32_w]
                                                      rfl
                                                    refine one_ (i := 8) (N := (some 108)) #[true, true, true, true, true, true, true, true, true, false] rfl rfl (by kernel_rfl) (by decide) (fun K hK => ?_)
                                                    refine Kd.R_append_step k35 (w0 := wr) (W := wr.drew) w.heap.size rfl (.tmp 100) (.tmp 107) 30 35 (.agg #[(.string ⟨#[]⟩), (.int .i64 0)]) 24 rfl Tryd.underlying30 info35 rfl (by decide) (by omega) (.slice A7 x7.length cc7) x7 (⟨a0.extract (x9 : Int).toNat (y : Int).toNat, x9⟩ : S35) [.string (a0.extract (x9 : Int).toNat (y : Int).toNat), .int .i64 x9] (fun k => k ≠ w.heap.size ∧ k ≠ w.heap.size + 1) (fun _ => False) rfl rfl (k51_mkM _ _ _ (⟨a0.extract (x9 : Int).toNat (y : Int).toNat, x9⟩ : S35)) (fun _ hk => hk.elim) ?aF ?aO ?aB HZ.out ?aL ?_
                                                    case aF => exact (fun k (hk : wr.heap.size ≤ k) => by have h1 := blk_lt HB2.out; have h2 := blk_lt HB7.out; omega)
                                                    case aO => exact Kd.R_drew HR.out
                                                    case aB => exact below_drewB w.heap.size wr
                                                    case aL => have := HE4.out; omega
                                                    intro v9 w2 ho hb hg hat
                                                    obtain ⟨A9, cc9, e9⟩ := Kd.R_slice ho
                                                    subst e9
                                                    have HO9 := Aside0.mk ho
                                                    have HB9 := Aside0.mk hb
                                                    have hb2 : w2.heap[w.heap.size]? = some (.cells #[v2] 23 (0, 0)) := blk_grown (w := wr.drew) HB2.out hg (fun e => (HR.out.1 w.heap.size e.symm).1 rfl)
                                                    have hHeld2 : w2.heap[w.heap.size + 1]? = some (.cells #[.slice A7 x7.length cc7] 30 (0, 0)) := blk_grown (w := wr.drew) HB7.out hg (fun e => (HR.out.1 (w.heap.size + 1) e.symm).2 rfl)
                                                    have HX2 := Aside0.mk hb2
                                                    have HS9 := Aside0.mk (Kd.S_after (W := wr.drew) (v1 := .slice A9 (x7 ++ [(⟨a0.extract (x9 : Int).toNat (y : Int).toNat, x9⟩ : S35)]).length cc9) (Kd.S_drew HS.out) hg hat)
                                                    rw [List.length_append, List.length_singleton] at HO9 HS9
                                                    clear ho hb hg hat hb2
                                                    refine hK.out _ _ (hHeld2) (fun hHeld => ?_)
                                                    clear hK K
                                                    refine norm_ (a' := ?_) ?_ ?_
                                                    rotate_left
                                                    · show Act.put _ (some 108) _ = _
                                                      simp only [Act.put, List.setIfInBounds_toArray, List.set_cons_zero, List.set_cons_succ, i64_w, i32_w]
                                                      rfl
                                                    refine last_ (i := 9) (N := none) #[true, true, true, true, true, true, true, true, true, true] rfl rfl (by kernel_rfl) (by decide) (fun K hK => ?_)
                                                    have hc2 := blk_cell hHeld2 0
                                                    have hf2 := blk_frozen hHeld2 0
                                                    refine skip_ (w1 := w2.setCell ⟨w.heap.size + 1, 0, none⟩ (.slice A9 (x7.length + 1) cc9)) (by rfl) rfl ?_ ?_
                                                    · go_simp
                                                    refine hK.out _ _ ?_
                                                    clear hK K
                                                    refine Go.Proofs.YtggibjbcbicpjaaDoorW.PrintLast.done_ (by kernel_rfl) ?_
                                                    have HXN : Aside0 (LexB (w2.setCell ⟨w.heap.size + 1, 0, none⟩ (.slice A9 (x7.length + 1) cc9)) w.heap.size w.heap.size (w.heap.size + 1) x2 (x7 ++ [(⟨a0.extract (x9 : Int).toNat (y : Int).toNat, x9⟩ : S35)])) := ⟨HN.out, _, _, blk_far (p := ⟨w.heap.size + 1, 0, none⟩) HX2.out HN.out.1 _, blk_put hHeld2 0 _ rfl, Kd.S_far (p := ⟨w.heap.size + 1, 0, none⟩) HS9.out (fun k hk => hk.1.2) _, Kd.R_far (p := ⟨w.heap.size + 1, 0, none⟩) HO9.out (fun k hk => hk.2) _⟩
                                                    have HBN : Aside0 (Below w.heap.size w (w2.setCell ⟨w.heap.size + 1, 0, none⟩ (.slice A9 (x7.length + 1) cc9))) := ⟨(HB.out.trans HB9.out).setCell (p := ⟨w.heap.size + 1, 0, none⟩) (Nat.le_succ _) _⟩
                                                    generalize w2.setCell ⟨w.heap.size + 1, 0, none⟩ (.slice A9 (x7.length + 1) cc9) = w3 at *
                                                    clear hHeld hHeld2 HX2 HS9 HO9
                                                    go_wp2_with fail
                                                    go_roundg k4
                                                    case measure => have := HK2.out; have := HK4.out; omega
                                                    case rel => exact ⟨x2, x7 ++ [(⟨a0.extract (x9 : Int).toNat (y : Int).toNat, x9⟩ : S35)], y, by first | rfl | (simp; done) | (simp [*]; done), H', ⟨by have := HK2.out; have := HK4.out; omega⟩, HXN, HBN⟩
                                                  · rw [if_neg e4] at H
                                                    exact absurd H (by simp)
                                                · rw [if_neg e3] at H
                                                  exact absurd H (by simp)
                                              · rw [if_neg e2] at H
                                                exact absurd H (by simp)
                                            · rw [if_neg e1] at H
                                              exact absurd H (by simp)
                                          · rw [if_neg f35] at H
                                            have f35b0 : ((bt a0 y) != 35) = true := bne_iff_ne.mpr f35
                                            clear f35
                                            have H' := Aside0.mk H
                                            clear H
                                            go_wp2_with fail
                                            go_roundg k4
                                            case measure => omega
                                            case rel => exact ⟨wrap64 (y + 1), by first | rfl | (simp; done) | (simp [*]; done), H', ⟨by have := HK4.out; omega⟩, HX, HB⟩
                                  · rw [if_neg d4] at H
                                    exact absurd H (by simp)
                                · rw [if_neg d3] at H
                                  have d3b0 : decide (y < (a0.size : Int)) = false := decide_eq_false d3
                                  clear d3
                                  by_cases e1 : 0 ≤ x9
                                  · rw [if_pos e1] at H
                                    by_cases e2 : x9 ≤ y
                                    · rw [if_pos e2] at H
                                      by_cases e3 : y ≤ (a0.size : Int)
                                      · rw [if_pos e3] at H
                                        by_cases e4 : x7.length < 5864062014805
                                        · rw [if_pos e4] at H
                                          have HE4 := Aside0.mk e4
                                          replace e1 := eq_true e1
                                          replace e2 := eq_true e2
                                          replace e3 := eq_true e3
                                          have H' := Aside0.mk H
                                          clear H e4
                                          obtain ⟨hne, v2, v7, hb2, hb7, hS, hR⟩ := HX.out
                                          obtain ⟨A7, cc7, rfl⟩ := Kd.R_slice hR
                                          have HN := Aside0.mk hne
                                          have HB2 := Aside0.mk hb2
                                          have HB7 := Aside0.mk hb7
                                          have HS := Aside0.mk hS
                                          have HR := Aside0.mk hR
                                          have HZ := Aside0.mk HX.out.size
                                          clear hne hb2 hb7 hS hR HX
                                          go_wp2_with fail
                                          refine start_ (n := 10) (S := fun w' => w'.heap[w.heap.size + 1]? = some (.cells #[.slice A7 x7.length cc7] 30 (0, 0))) (ds := [9]) #[false, false, false, false, false, false, false, false, false, false] (by kernel_rfl) rfl rfl (blk_drew HB7.out) (fun hHeld => ?_)
                                          refine take_ (i := 0) (N := (some 100)) (v := ?_) (a' := ?_) #[true, false, false, false, false, false, false, false, false, false] rfl rfl (by kernel_rfl) (fun _ _ _ h => h) (Or.inl ⟨by rfl, ?_⟩) hHeld ?_ ?_
                                          rotate_left
                                          · intro w' hS_
                                            have hcell_ := blk_cell hS_ 0
                                            go_simp
                                            with_reducible rfl
                                          rotate_left
                                          · simp only [Act.put, List.setIfInBounds_toArray, List.set_cons_zero, List.set_cons_succ, i64_w, i32_w]
                                            rfl
                                          refine pure_ (i := 1) (N := (some 101)) (v := ?_) (a' := ?_) #[true, true, false, false, false, false, false, false, false, false] rfl rfl (by kernel_rfl) (fun _ _ _ h => h) (Or.inl ⟨by rfl, ?_⟩) ?_ ?_
                                          rotate_left
                                          · intro w'
                                            go_simp
                                            with_reducible rfl
                                          rotate_left
                                          · simp only [Act.put, List.setIfInBounds_toArray, List.set_cons_zero, List.set_cons_succ, i64_w, i32_w]
                                            rfl
                                          refine pure_ (i := 2) (N := (some 102)) (v := ?_) (a' := ?_) #[true, true, true, false, false, false, false, false, false, false] rfl rfl (by kernel_rfl) (fun _ _ _ h => h) (Or.inl ⟨by rfl, ?_⟩) ?_ ?_
                                          rotate_left
                                          · intro w'
                                            go_simp
                                            with_reducible rfl
                                          rotate_left
                                          · simp only [Act.put, List.setIfInBounds_toArray, List.set_cons_zero, List.set_cons_succ, i64_w, i32_w]
                                            rfl
                                          refine pure_ (i := 3) (N := (some 103)) (v := ?_) (a' := ?_) #[true, true, true, true, false, false, false, false, false, false] rfl rfl (by kernel_rfl) (fun _ _ _ h => h) (Or.inl ⟨by rfl, ?_⟩) ?_ ?_
                                          rotate_left
                                          · intro w'
                                            go_simp
                                            with_reducible rfl
                                          rotate_left
                                          · simp only [Act.put, List.setIfInBounds_toArray, List.set_cons_zero, List.set_cons_succ, i64_w, i32_w]
                                            rfl
                                          refine pure_ (i := 4) (N := (some 104)) (v := ?_) (a' := ?_) #[true, true, true, true, true, false, false, false, false, false] rfl rfl (by kernel_rfl) (fun _ _ _ h => h) (Or.inl ⟨by rfl, ?_⟩) ?_ ?_
                                          rotate_left
                                          · intro w'
                                            go_simp
                                            with_reducible rfl
                                          rotate_left
                                          · simp only [Act.put, List.setIfInBounds_toArray, List.set_cons_zero, List.set_cons_succ, i64_w, i32_w]
                                            rfl
                                          refine pure_ (i := 5) (N := (some 105)) (v := ?_) (a' := ?_) #[true, true, true, true, true, true, false, false, false, false] rfl rfl (by kernel_rfl) (fun _ _ _ h => h) (Or.inl ⟨by rfl, ?_⟩) ?_ ?_
                                          rotate_left
                                          · intro w'
                                            go_simp
                                            with_reducible rfl
                                          rotate_left
                                          · simp only [Act.put, List.setIfInBounds_toArray, List.set_cons_zero, List.set_cons_succ, i64_w, i32_w]
                                            rfl
                                          refine pure_ (i := 6) (N := (some 106)) (v := ?_) (a' := ?_) #[true, true, true, true, true, true, true, false, false, false] rfl rfl (by kernel_rfl) (fun _ _ _ h => h) (Or.inl ⟨by rfl, ?_⟩) ?_ ?_
                                          rotate_left
                                          · intro w'
                                            go_simp
                                            with_reducible rfl
                                          rotate_left
                                          · simp only [Act.put, List.setIfInBounds_toArray, List.set_cons_zero, List.set_cons_succ, i64_w, i32_w]
                                            rfl
                                          refine one_ (i := 7) (N := (some 107)) #[true, true, true, true, true, true, true, true, false, false] rfl rfl (by kernel_rfl) (by decide) (fun K hK => ?_)
                                          refine value_ (w1 := ?_) (v := ?_) (by rfl) rfl ?_ ?_
                                          rotate_left 2
                                          · go_simp
                                            constructor
                                            · rfl
                                            · rfl
                                          refine hK.out _ _ (blk_alloc hHeld _) (fun hHeld => ?_)
                                          clear hK K
                                          refine norm_ (a' := ?_) ?_ ?_
                                          rotate_left
                                          · show Act.put _ (some 107) _ = _
                                            simp only [Act.put, List.setIfInBounds_toArray, List.set_cons_zero, List.set_cons_succ, i64_w, i32_w]
                                            rfl
                                          refine one_ (i := 8) (N := (some 108)) #[true, true, true, true, true, true, true, true, true, false] rfl rfl (by kernel_rfl) (by decide) (fun K hK => ?_)
                                          refine Kd.R_append_step k35 (w0 := wr) (W := wr.drew) w.heap.size rfl (.tmp 100) (.tmp 107) 30 35 (.agg #[(.string ⟨#[]⟩), (.int .i64 0)]) 24 rfl Tryd.underlying30 info35 rfl (by decide) (by omega) (.slice A7 x7.length cc7) x7 (⟨a0.extract (x9 : Int).toNat (y : Int).toNat, x9⟩ : S35) [.string (a0.extract (x9 : Int).toNat (y : Int).toNat), .int .i64 x9] (fun k => k ≠ w.heap.size ∧ k ≠ w.heap.size + 1) (fun _ => False) rfl rfl (k51_mkM _ _ _ (⟨a0.extract (x9 : Int).toNat (y : Int).toNat, x9⟩ : S35)) (fun _ hk => hk.elim) ?aF ?aO ?aB HZ.out ?aL ?_
                                          case aF => exact (fun k (hk : wr.heap.size ≤ k) => by have h1 := blk_lt HB2.out; have h2 := blk_lt HB7.out; omega)
                                          case aO => exact Kd.R_drew HR.out
                                          case aB => exact below_drewB w.heap.size wr
                                          case aL => have := HE4.out; omega
                                          intro v9 w2 ho hb hg hat
                                          obtain ⟨A9, cc9, e9⟩ := Kd.R_slice ho
                                          subst e9
                                          have HO9 := Aside0.mk ho
                                          have HB9 := Aside0.mk hb
                                          have hb2 : w2.heap[w.heap.size]? = some (.cells #[v2] 23 (0, 0)) := blk_grown (w := wr.drew) HB2.out hg (fun e => (HR.out.1 w.heap.size e.symm).1 rfl)
                                          have hHeld2 : w2.heap[w.heap.size + 1]? = some (.cells #[.slice A7 x7.length cc7] 30 (0, 0)) := blk_grown (w := wr.drew) HB7.out hg (fun e => (HR.out.1 (w.heap.size + 1) e.symm).2 rfl)
                                          have HX2 := Aside0.mk hb2
                                          have HS9 := Aside0.mk (Kd.S_after (W := wr.drew) (v1 := .slice A9 (x7 ++ [(⟨a0.extract (x9 : Int).toNat (y : Int).toNat, x9⟩ : S35)]).length cc9) (Kd.S_drew HS.out) hg hat)
                                          rw [List.length_append, List.length_singleton] at HO9 HS9
                                          clear ho hb hg hat hb2
                                          refine hK.out _ _ (hHeld2) (fun hHeld => ?_)
                                          clear hK K
                                          refine norm_ (a' := ?_) ?_ ?_
                                          rotate_left
                                          · show Act.put _ (some 108) _ = _
                                            simp only [Act.put, List.setIfInBounds_toArray, List.set_cons_zero, List.set_cons_succ, i64_w, i32_w]
                                            rfl
                                          refine last_ (i := 9) (N := none) #[true, true, true, true, true, true, true, true, true, true] rfl rfl (by kernel_rfl) (by decide) (fun K hK => ?_)
                                          have hc2 := blk_cell hHeld2 0
                                          have hf2 := blk_frozen hHeld2 0
                                          refine skip_ (w1 := w2.setCell ⟨w.heap.size + 1, 0, none⟩ (.slice A9 (x7.length + 1) cc9)) (by rfl) rfl ?_ ?_
                                          · go_simp
                                          refine hK.out _ _ ?_
                                          clear hK K
                                          refine Go.Proofs.YtggibjbcbicpjaaDoorW.PrintLast.done_ (by kernel_rfl) ?_
                                          have HXN : Aside0 (LexB (w2.setCell ⟨w.heap.size + 1, 0, none⟩ (.slice A9 (x7.length + 1) cc9)) w.heap.size w.heap.size (w.heap.size + 1) x2 (x7 ++ [(⟨a0.extract (x9 : Int).toNat (y : Int).toNat, x9⟩ : S35)])) := ⟨HN.out, _, _, blk_far (p := ⟨w.heap.size + 1, 0, none⟩) HX2.out HN.out.1 _, blk_put hHeld2 0 _ rfl, Kd.S_far (p := ⟨w.heap.size + 1, 0, none⟩) HS9.out (fun k hk => hk.1.2) _, Kd.R_far (p := ⟨w.heap.size + 1, 0, none⟩) HO9.out (fun k hk => hk.2) _⟩
                                          have HBN : Aside0 (Below w.heap.size w (w2.setCell ⟨w.heap.size + 1, 0, none⟩ (.slice A9 (x7.length + 1) cc9))) := ⟨(HB.out.trans HB9.out).setCell (p := ⟨w.heap.size + 1, 0, none⟩) (Nat.le_succ _) _⟩
                                          generalize w2.setCell ⟨w.heap.size + 1, 0, none⟩ (.slice A9 (x7.length + 1) cc9) = w3 at *
                                          clear hHeld hHeld2 HX2 HS9 HO9
                                          go_wp2_with fail
                                          go_roundg k4
                                          case measure => have := HK2.out; have := HK4.out; omega
                                          case rel => exact ⟨x2, x7 ++ [(⟨a0.extract (x9 : Int).toNat (y : Int).toNat, x9⟩ : S35)], y, by first | rfl | (simp; done) | (simp [*]; done), H', ⟨by have := HK2.out; have := HK4.out; omega⟩, HXN, HBN⟩
                                        · rw [if_neg e4] at H
                                          exact absurd H (by simp)
                                      · rw [if_neg e3] at H
                                        exact absurd H (by simp)
                                    · rw [if_neg e2] at H
                                      exact absurd H (by simp)
                                  · rw [if_neg e1] at H
                                    exact absurd H (by simp)
                · rw [if_neg c4] at H
                  exact absurd H (by simp)
              · rw [if_neg c3] at H
                have c3b0 : decide (x9 < (a0.size : Int)) = false := decide_eq_false c3
                clear c3
                by_cases hx7 : (x7.length : Int) > 0
                · rw [if_pos hx7] at H
                  by_cases hl2 : x2.length < 5864062014805
                  · rw [if_pos hl2] at H
                    go_wp2_with fail
                    refine (done_ _ w.heap.size w.heap.size (w.heap.size + 1) x2 x7 HX.out (fun _ => hl2)).mono ?_
                    rintro e w1 ⟨rfl, hx1, hb1⟩
                    rw [if_pos (by omega)] at hx1
                    clear hx7 hl2
                    simp only [Option.some.injEq, Prod.mk.injEq] at H
                    obtain ⟨rfl, rfl, rfl⟩ := H
                    obtain ⟨hne, v2, v7, hb2, hb7, hS, hR⟩ := hx1
                    obtain ⟨A2, cc2, rfl⟩ := Kd.R_slice (Kd.S_R hS)
                    have hcx := blk_cell hb2 0
                    have hfx := blk_frozen hb2 0
                    have HS2 := Aside0.mk hS
                    have HBX := Aside0.mk hb2
                    have HB1 := Aside0.mk hb1
                    clear hS hR hb7 hb2 hb1
                    go_wp2_with fail
                    simp only [Exit.noGoto, Exit.inBlock, Exit.then]
                    refine bodyPost_ret (res3 (g := w.heap.size) _ rfl (blk_cell (blk_set HBX.out 0 _) 0)) rfl ?_
                    exact ⟨_, by first | rfl | (simp; done) | (simp [*]; done), Kd.S_mono (Kd.S_far (p := ⟨w.heap.size, 0, none⟩) HS2.out (fun k hk => hk.1.1) _) (fun _ _ => trivial), (HB.out.trans HB1.out).setCell (p := ⟨w.heap.size, 0, none⟩) (Nat.le_refl _) _⟩
                  · rw [if_neg hl2] at H
                    exact absurd H (by simp)
                · rw [if_neg hx7] at H
                  have hx70 : x7 = [] := List.eq_nil_of_length_eq_zero (by omega)
                  subst hx70
                  go_wp2_with fail
                  refine (done_ _ w.heap.size w.heap.size (w.heap.size + 1) x2 [] HX.out (fun h => absurd h (by simp))).mono ?_
                  rintro e w1 ⟨rfl, hx1, hb1⟩
                  rw [if_neg (by simp)] at hx1
                  clear hx7
                  simp only [Option.some.injEq, Prod.mk.injEq] at H
                  obtain ⟨rfl, rfl, rfl⟩ := H
                  obtain ⟨hne, v2, v7, hb2, hb7, hS, hR⟩ := hx1
                  obtain ⟨A2, cc2, rfl⟩ := Kd.R_slice (Kd.S_R hS)
                  have hcx := blk_cell hb2 0
                  have hfx := blk_frozen hb2 0
                  have HS2 := Aside0.mk hS
                  have HBX := Aside0.mk hb2
                  have HB1 := Aside0.mk hb1
                  clear hS hR hb7 hb2 hb1
                  go_wp2_with fail
                  simp only [Exit.noGoto, Exit.inBlock, Exit.then]
                  refine bodyPost_ret (res3 (g := w.heap.size) _ rfl (blk_cell (blk_set HBX.out 0 _) 0)) rfl ?_
                  exact ⟨_, by first | rfl | (simp; done) | (simp [*]; done), Kd.S_mono (Kd.S_far (p := ⟨w.heap.size, 0, none⟩) HS2.out (fun k hk => hk.1.1) _) (fun _ _ => trivial), (HB.out.trans HB1.out).setCell (p := ⟨w.heap.size, 0, none⟩) (Nat.le_refl _) _⟩
end Go.Proofs.YtggibjbcbicpjaaDoor.QLexWhere
