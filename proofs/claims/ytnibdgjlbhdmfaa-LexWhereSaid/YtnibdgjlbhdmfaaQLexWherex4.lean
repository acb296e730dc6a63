-- Laid by a program of this session out of Lean's print of the program.
import Derived.Test.YtnibdgjlbhdmfaaQLexWherex0
import Derived.Test.YtnibdgjlbhdmfaaLexLines
import Derived.Test.YtnibdgjlbhdmfaaLexFirst
namespace Go.Proofs.Ytnibdgjlbhdmfaa.QLexWhere
open Go.RowKit Go.Proofs.YtnibdgjlbhdmfaaW.PrintWords Go.Proofs.YtnibdgjlbhdmfaaW.PrintLast Go.Proofs.YtnibdgjlbhdmfaaW.PrintMore
attribute [local go_sem] max2_int min2_int max_two min_two max_three min_three max_four min_four   -- for this text's walks alone
set_option linter.unusedVariables false
set_option linter.unusedSimpArgs false

/-! ### plnlaw7_LexWhere: function 6 -/
mutual
def plnlaw7_LexWhere.l0 : Nat → ByteArray → List (S49) → Int → Int → Int → Option (Bool)
  | 0, _, _, _, _, _ => none
  | k + 1, x0, x3, x4, x5, x6 => if x6 < (x0.size : Int) then (if 0 ≤ x6 then (if (bt x0 x6) = 9 then (plnlaw7_LexWhere.l0 k x0 x3 x4 x5 (wrap64 (x6 + 1))) else (if (bt x0 x6) = 10 then (plnlaw7_LexWhere.l0 k x0 x3 x4 x5 (wrap64 (x6 + 1))) else (if (bt x0 x6) < 32 then (if x5 = 1 then (if x4 = x6 then (some ((x3.length : Int) == 0)) else (some false)) else (some false)) else (if (bt x0 x6) > 126 then (if x5 = 1 then (if x4 = x6 then (some ((x3.length : Int) == 0)) else (some false)) else (some false)) else (plnlaw7_LexWhere.l0 k x0 x3 x4 x5 (wrap64 (x6 + 1))))))) else (none)) else (if x5 = 0 then (plnlaw7_LexWhere.j1 k x0 x3 (x4 != 0)) else (plnlaw7_LexWhere.j1 k x0 x3 true))
def plnlaw7_LexWhere.j1 : Nat → ByteArray → List (S49) → Bool → Option (Bool)
  | 0, _, _, _ => none
  | k + 1, x0, x3, x68 => if x68 = true then (some false) else (plnlaw7_LexWhere.l1 k x0 x3 0 false 0)
def plnlaw7_LexWhere.l1 : Nat → ByteArray → List (S49) → Int → Bool → Int → Option (Bool)
  | 0, _, _, _, _, _ => none
  | k + 1, x0, x3, x8, x9, x10 => if x10 < (x3.length : Int) then (if 0 ≤ x10 then (if (((rd_T49 x3 x10).f0).length : Int) = 0 then (some false) else (plnlaw7_LexWhere.l2 k x0 x3 x8 x9 x10 0)) else (none)) else (plnlaw7_LexWhere.l4 k x0 x9 x8)
def plnlaw7_LexWhere.l2 : Nat → ByteArray → List (S49) → Int → Bool → Int → Int → Option (Bool)
  | 0, _, _, _, _, _, _ => none
  | k + 1, x0, x3, x8, x9, x10, x11 => if 0 ≤ x10 then (if x10 < (x3.length : Int) then (if x11 < (((rd_T49 x3 x10).f0).length : Int) then (if 0 ≤ x11 then (if (((rd_T51 ((rd_T49 x3 x10).f0) x11).f0).size : Int) = 0 then (plnlaw7_LexWhere.j4 k x0 x3 x8 x9 x10 x11 ((rd_T51 ((rd_T49 x3 x10).f0) x11).f0) true ((rd_T51 ((rd_T49 x3 x10).f0) x11).f1)) else (if ((rd_T51 ((rd_T49 x3 x10).f0) x11).f1) < x8 then (plnlaw7_LexWhere.j4 k x0 x3 x8 x9 x10 x11 ((rd_T51 ((rd_T49 x3 x10).f0) x11).f0) true ((rd_T51 ((rd_T49 x3 x10).f0) x11).f1)) else (if ((rd_T51 ((rd_T49 x3 x10).f0) x11).f1) > (wrap64 ((x0.size : Int) - (((rd_T51 ((rd_T49 x3 x10).f0) x11).f0).size : Int))) then (plnlaw7_LexWhere.j4 k x0 x3 x8 x9 x10 x11 ((rd_T51 ((rd_T49 x3 x10).f0) x11).f0) true ((rd_T51 ((rd_T49 x3 x10).f0) x11).f1)) else (if 0 ≤ ((rd_T51 ((rd_T49 x3 x10).f0) x11).f1) then (if ((rd_T51 ((rd_T49 x3 x10).f0) x11).f1) ≤ (wrap64 (((rd_T51 ((rd_T49 x3 x10).f0) x11).f1) + (((rd_T51 ((rd_T49 x3 x10).f0) x11).f0).size : Int))) then (if (wrap64 (((rd_T51 ((rd_T49 x3 x10).f0) x11).f1) + (((rd_T51 ((rd_T49 x3 x10).f0) x11).f0).size : Int))) ≤ (x0.size : Int) then (plnlaw7_LexWhere.j4 k x0 x3 x8 x9 x10 x11 ((rd_T51 ((rd_T49 x3 x10).f0) x11).f0) ((x0.extract (((rd_T51 ((rd_T49 x3 x10).f0) x11).f1) : Int).toNat ((wrap64 (((rd_T51 ((rd_T49 x3 x10).f0) x11).f1) + (((rd_T51 ((rd_T49 x3 x10).f0) x11).f0).size : Int))) : Int).toNat).toList != ((rd_T51 ((rd_T49 x3 x10).f0) x11).f0).toList) ((rd_T51 ((rd_T49 x3 x10).f0) x11).f1)) else (none)) else (none)) else (none))))) else (none)) else (plnlaw7_LexWhere.l1 k x0 x3 x8 x9 (wrap64 (x10 + 1)))) else (none)) else (none)
def plnlaw7_LexWhere.j4 : Nat → ByteArray → List (S49) → Int → Bool → Int → Int → ByteArray → Bool → Int → Option (Bool)
  | 0, _, _, _, _, _, _, _, _, _ => none
  | k + 1, x0, x3, x8, x9, x10, x11, x12, x135, x223 => if x135 = true then (some false) else (plnlaw7_LexWhere.l3 k x0 x3 x9 x10 x11 x12 0 x8 x223)
def plnlaw7_LexWhere.l3 : Nat → ByteArray → List (S49) → Bool → Int → Int → ByteArray → Int → Int → Int → Option (Bool)
  | 0, _, _, _, _, _, _, _, _, _ => none
  | k + 1, x0, x3, x9, x10, x11, x12, x13, x14, x223 => if x14 < x223 then (if 0 ≤ x14 then (if x14 < (x0.size : Int) then (if (bt x0 x14) = 10 then (plnlaw7_LexWhere.l3 k x0 x3 false x10 x11 x12 (wrap64 (x13 + 1)) (wrap64 (x14 + 1)) x223) else (if (bt x0 x14) = 35 then (plnlaw7_LexWhere.l3 k x0 x3 true x10 x11 x12 x13 (wrap64 (x14 + 1)) x223) else (if x9 = true then (plnlaw7_LexWhere.l3 k x0 x3 x9 x10 x11 x12 x13 (wrap64 (x14 + 1)) x223) else (if (bt x0 x14) = 9 then (plnlaw7_LexWhere.l3 k x0 x3 x9 x10 x11 x12 x13 (wrap64 (x14 + 1)) x223) else (if (bt x0 x14) = 32 then (plnlaw7_LexWhere.l3 k x0 x3 x9 x10 x11 x12 x13 (wrap64 (x14 + 1)) x223) else (some false)))))) else (none)) else (none)) else (if x9 = true then (some false) else (if x11 > 0 then (if x13 > 0 then (some false) else (if x11 = 0 then (if x10 > 0 then (if x13 = 0 then (some false) else (plnlaw7_LexWhere.l2 k x0 x3 (wrap64 (x223 + (x12.size : Int))) x9 x10 (wrap64 (x11 + 1)))) else (plnlaw7_LexWhere.l2 k x0 x3 (wrap64 (x223 + (x12.size : Int))) x9 x10 (wrap64 (x11 + 1)))) else (plnlaw7_LexWhere.l2 k x0 x3 (wrap64 (x223 + (x12.size : Int))) x9 x10 (wrap64 (x11 + 1))))) else (if x11 = 0 then (if x10 > 0 then (if x13 = 0 then (some false) else (plnlaw7_LexWhere.l2 k x0 x3 (wrap64 (x223 + (x12.size : Int))) x9 x10 (wrap64 (x11 + 1)))) else (plnlaw7_LexWhere.l2 k x0 x3 (wrap64 (x223 + (x12.size : Int))) x9 x10 (wrap64 (x11 + 1)))) else (plnlaw7_LexWhere.l2 k x0 x3 (wrap64 (x223 + (x12.size : Int))) x9 x10 (wrap64 (x11 + 1))))))
def plnlaw7_LexWhere.l4 : Nat → ByteArray → Bool → Int → Option (Bool)
  | 0, _, _, _ => none
  | k + 1, x0, x9, x15 => if x15 < (x0.size : Int) then (if 0 ≤ x15 then (if (bt x0 x15) = 10 then (plnlaw7_LexWhere.l4 k x0 false (wrap64 (x15 + 1))) else (if (bt x0 x15) = 35 then (plnlaw7_LexWhere.l4 k x0 true (wrap64 (x15 + 1))) else (if x9 = true then (plnlaw7_LexWhere.l4 k x0 x9 (wrap64 (x15 + 1))) else (if (bt x0 x15) = 9 then (plnlaw7_LexWhere.l4 k x0 x9 (wrap64 (x15 + 1))) else (if (bt x0 x15) = 32 then (plnlaw7_LexWhere.l4 k x0 x9 (wrap64 (x15 + 1))) else (some false)))))) else (none)) else (some true)
end
def plnlaw7_LexWhere.f (k : Nat) (a0 : ByteArray) : Option (Bool) := (plnlaw7_first.f k).bind fun t134 => (if t134 = true then (if (a0.size : Int) > 1000 then ((plnlaw7_first.f k).bind fun t135 => (some t135)) else ((lex_Lines.f k a0).bind fun bt136 => (plnlaw7_LexWhere.l0 k a0 bt136.1 bt136.2.1 bt136.2.2 0))) else (some false))
theorem plnlaw7_LexWhere.mono_l : ∀ k, (∀ y0 y1 y2 y3 y4, LeO (plnlaw7_LexWhere.l0 k y0 y1 y2 y3 y4) (plnlaw7_LexWhere.l0 (k + 1) y0 y1 y2 y3 y4)) ∧ (∀ y0 y1 y2, LeO (plnlaw7_LexWhere.j1 k y0 y1 y2) (plnlaw7_LexWhere.j1 (k + 1) y0 y1 y2)) ∧ (∀ y0 y1 y2 y3 y4, LeO (plnlaw7_LexWhere.l1 k y0 y1 y2 y3 y4) (plnlaw7_LexWhere.l1 (k + 1) y0 y1 y2 y3 y4)) ∧ (∀ y0 y1 y2 y3 y4 y5, LeO (plnlaw7_LexWhere.l2 k y0 y1 y2 y3 y4 y5) (plnlaw7_LexWhere.l2 (k + 1) y0 y1 y2 y3 y4 y5)) ∧ (∀ y0 y1 y2 y3 y4 y5 y6 y7 y8, LeO (plnlaw7_LexWhere.j4 k y0 y1 y2 y3 y4 y5 y6 y7 y8) (plnlaw7_LexWhere.j4 (k + 1) y0 y1 y2 y3 y4 y5 y6 y7 y8)) ∧ (∀ y0 y1 y2 y3 y4 y5 y6 y7 y8, LeO (plnlaw7_LexWhere.l3 k y0 y1 y2 y3 y4 y5 y6 y7 y8) (plnlaw7_LexWhere.l3 (k + 1) y0 y1 y2 y3 y4 y5 y6 y7 y8)) ∧ (∀ y0 y1 y2, LeO (plnlaw7_LexWhere.l4 k y0 y1 y2) (plnlaw7_LexWhere.l4 (k + 1) y0 y1 y2))
  | 0 => ⟨fun _ _ _ _ _ r h => by simp [plnlaw7_LexWhere.l0] at h, fun _ _ _ r h => by simp [plnlaw7_LexWhere.j1] at h, fun _ _ _ _ _ r h => by simp [plnlaw7_LexWhere.l1] at h, fun _ _ _ _ _ _ r h => by simp [plnlaw7_LexWhere.l2] at h, fun _ _ _ _ _ _ _ _ _ r h => by simp [plnlaw7_LexWhere.j4] at h, fun _ _ _ _ _ _ _ _ _ r h => by simp [plnlaw7_LexWhere.l3] at h, fun _ _ _ r h => by simp [plnlaw7_LexWhere.l4] at h⟩
  | k + 1 => by
    obtain ⟨ih0, ih1, ih2, ih3, ih4, ih5, ih6⟩ := plnlaw7_LexWhere.mono_l k
    refine ⟨?_, ?_, ?_, ?_, ?_, ?_, ?_⟩
    · intro y0 y1 y2 y3 y4
      unfold plnlaw7_LexWhere.l0
      repeat' first
      | (with_reducible exact ih0 _ _ _ _ _)
      | (with_reducible exact ih1 _ _ _)
      | (with_reducible exact ih2 _ _ _ _ _)
      | (with_reducible exact ih3 _ _ _ _ _ _)
      | (with_reducible exact ih4 _ _ _ _ _ _ _ _ _)
      | (with_reducible exact ih5 _ _ _ _ _ _ _ _ _)
      | (with_reducible exact ih6 _ _ _)
      | (with_reducible exact lex_Lines.mono _ _)
      | (with_reducible exact plnlaw7_first.mono _)
      | (with_reducible exact LeO.refl _)
      | (with_reducible exact LeO.none _)
      | (with_reducible refine LeO.ite ?_ ?_)
      | (with_reducible refine LeO.bind ?_ (fun _ => ?_))
      | exact ih0 _ _ _ _ _
      | exact ih1 _ _ _
      | exact ih2 _ _ _ _ _
      | exact ih3 _ _ _ _ _ _
      | exact ih4 _ _ _ _ _ _ _ _ _
      | exact ih5 _ _ _ _ _ _ _ _ _
      | exact ih6 _ _ _
      | exact lex_Lines.mono _ _
      | exact plnlaw7_first.mono _
      | exact LeO.none _
      | refine LeO.ite ?_ ?_
      | refine LeO.bind ?_ (fun _ => ?_)
    · intro y0 y1 y2
      unfold plnlaw7_LexWhere.j1
      repeat' first
      | (with_reducible exact ih0 _ _ _ _ _)
      | (with_reducible exact ih1 _ _ _)
      | (with_reducible exact ih2 _ _ _ _ _)
      | (with_reducible exact ih3 _ _ _ _ _ _)
      | (with_reducible exact ih4 _ _ _ _ _ _ _ _ _)
      | (with_reducible exact ih5 _ _ _ _ _ _ _ _ _)
      | (with_reducible exact ih6 _ _ _)
      | (with_reducible exact lex_Lines.mono _ _)
      | (with_reducible exact plnlaw7_first.mono _)
      | (with_reducible exact LeO.refl _)
      | (with_reducible exact LeO.none _)
      | (with_reducible refine LeO.ite ?_ ?_)
      | (with_reducible refine LeO.bind ?_ (fun _ => ?_))
      | exact ih0 _ _ _ _ _
      | exact ih1 _ _ _
      | exact ih2 _ _ _ _ _
      | exact ih3 _ _ _ _ _ _
      | exact ih4 _ _ _ _ _ _ _ _ _
      | exact ih5 _ _ _ _ _ _ _ _ _
      | exact ih6 _ _ _
      | exact lex_Lines.mono _ _
      | exact plnlaw7_first.mono _
      | exact LeO.none _
      | refine LeO.ite ?_ ?_
      | refine LeO.bind ?_ (fun _ => ?_)
    · intro y0 y1 y2 y3 y4
      unfold plnlaw7_LexWhere.l1
      repeat' first
      | (with_reducible exact ih0 _ _ _ _ _)
      | (with_reducible exact ih1 _ _ _)
      | (with_reducible exact ih2 _ _ _ _ _)
      | (with_reducible exact ih3 _ _ _ _ _ _)
      | (with_reducible exact ih4 _ _ _ _ _ _ _ _ _)
      | (with_reducible exact ih5 _ _ _ _ _ _ _ _ _)
      | (with_reducible exact ih6 _ _ _)
      | (with_reducible exact lex_Lines.mono _ _)
      | (with_reducible exact plnlaw7_first.mono _)
      | (with_reducible exact LeO.refl _)
      | (with_reducible exact LeO.none _)
      | (with_reducible refine LeO.ite ?_ ?_)
      | (with_reducible refine LeO.bind ?_ (fun _ => ?_))
      | exact ih0 _ _ _ _ _
      | exact ih1 _ _ _
      | exact ih2 _ _ _ _ _
      | exact ih3 _ _ _ _ _ _
      | exact ih4 _ _ _ _ _ _ _ _ _
      | exact ih5 _ _ _ _ _ _ _ _ _
      | exact ih6 _ _ _
      | exact lex_Lines.mono _ _
      | exact plnlaw7_first.mono _
      | exact LeO.none _
      | refine LeO.ite ?_ ?_
      | refine LeO.bind ?_ (fun _ => ?_)
    · intro y0 y1 y2 y3 y4 y5
      unfold plnlaw7_LexWhere.l2
      repeat' first
      | (with_reducible exact ih0 _ _ _ _ _)
      | (with_reducible exact ih1 _ _ _)
      | (with_reducible exact ih2 _ _ _ _ _)
      | (with_reducible exact ih3 _ _ _ _ _ _)
      | (with_reducible exact ih4 _ _ _ _ _ _ _ _ _)
      | (with_reducible exact ih5 _ _ _ _ _ _ _ _ _)
      | (with_reducible exact ih6 _ _ _)
      | (with_reducible exact lex_Lines.mono _ _)
      | (with_reducible exact plnlaw7_first.mono _)
      | (with_reducible exact LeO.refl _)
      | (with_reducible exact LeO.none _)
      | (with_reducible refine LeO.ite ?_ ?_)
      | (with_reducible refine LeO.bind ?_ (fun _ => ?_))
      | exact ih0 _ _ _ _ _
      | exact ih1 _ _ _
      | exact ih2 _ _ _ _ _
      | exact ih3 _ _ _ _ _ _
      | exact ih4 _ _ _ _ _ _ _ _ _
      | exact ih5 _ _ _ _ _ _ _ _ _
      | exact ih6 _ _ _
      | exact lex_Lines.mono _ _
      | exact plnlaw7_first.mono _
      | exact LeO.none _
      | refine LeO.ite ?_ ?_
      | refine LeO.bind ?_ (fun _ => ?_)
    · intro y0 y1 y2 y3 y4 y5 y6 y7 y8
      unfold plnlaw7_LexWhere.j4
      repeat' first
      | (with_reducible exact ih0 _ _ _ _ _)
      | (with_reducible exact ih1 _ _ _)
      | (with_reducible exact ih2 _ _ _ _ _)
      | (with_reducible exact ih3 _ _ _ _ _ _)
      | (with_reducible exact ih4 _ _ _ _ _ _ _ _ _)
      | (with_reducible exact ih5 _ _ _ _ _ _ _ _ _)
      | (with_reducible exact ih6 _ _ _)
      | (with_reducible exact lex_Lines.mono _ _)
      | (with_reducible exact plnlaw7_first.mono _)
      | (with_reducible exact LeO.refl _)
      | (with_reducible exact LeO.none _)
      | (with_reducible refine LeO.ite ?_ ?_)
      | (with_reducible refine LeO.bind ?_ (fun _ => ?_))
      | exact ih0 _ _ _ _ _
      | exact ih1 _ _ _
      | exact ih2 _ _ _ _ _
      | exact ih3 _ _ _ _ _ _
      | exact ih4 _ _ _ _ _ _ _ _ _
      | exact ih5 _ _ _ _ _ _ _ _ _
      | exact ih6 _ _ _
      | exact lex_Lines.mono _ _
      | exact plnlaw7_first.mono _
      | exact LeO.none _
      | refine LeO.ite ?_ ?_
      | refine LeO.bind ?_ (fun _ => ?_)
    · intro y0 y1 y2 y3 y4 y5 y6 y7 y8
      unfold plnlaw7_LexWhere.l3
      repeat' first
      | (with_reducible exact ih0 _ _ _ _ _)
      | (with_reducible exact ih1 _ _ _)
      | (with_reducible exact ih2 _ _ _ _ _)
      | (with_reducible exact ih3 _ _ _ _ _ _)
      | (with_reducible exact ih4 _ _ _ _ _ _ _ _ _)
      | (with_reducible exact ih5 _ _ _ _ _ _ _ _ _)
      | (with_reducible exact ih6 _ _ _)
      | (with_reducible exact lex_Lines.mono _ _)
      | (with_reducible exact plnlaw7_first.mono _)
      | (with_reducible exact LeO.refl _)
      | (with_reducible exact LeO.none _)
      | (with_reducible refine LeO.ite ?_ ?_)
      | (with_reducible refine LeO.bind ?_ (fun _ => ?_))
      | exact ih0 _ _ _ _ _
      | exact ih1 _ _ _
      | exact ih2 _ _ _ _ _
      | exact ih3 _ _ _ _ _ _
      | exact ih4 _ _ _ _ _ _ _ _ _
      | exact ih5 _ _ _ _ _ _ _ _ _
      | exact ih6 _ _ _
      | exact lex_Lines.mono _ _
      | exact plnlaw7_first.mono _
      | exact LeO.none _
      | refine LeO.ite ?_ ?_
      | refine LeO.bind ?_ (fun _ => ?_)
    · intro y0 y1 y2
      unfold plnlaw7_LexWhere.l4
      repeat' first
      | (with_reducible exact ih0 _ _ _ _ _)
      | (with_reducible exact ih1 _ _ _)
      | (with_reducible exact ih2 _ _ _ _ _)
      | (with_reducible exact ih3 _ _ _ _ _ _)
      | (with_reducible exact ih4 _ _ _ _ _ _ _ _ _)
      | (with_reducible exact ih5 _ _ _ _ _ _ _ _ _)
      | (with_reducible exact ih6 _ _ _)
      | (with_reducible exact lex_Lines.mono _ _)
      | (with_reducible exact plnlaw7_first.mono _)
      | (with_reducible exact LeO.refl _)
      | (with_reducible exact LeO.none _)
      | (with_reducible refine LeO.ite ?_ ?_)
      | (with_reducible refine LeO.bind ?_ (fun _ => ?_))
      | exact ih0 _ _ _ _ _
      | exact ih1 _ _ _
      | exact ih2 _ _ _ _ _
      | exact ih3 _ _ _ _ _ _
      | exact ih4 _ _ _ _ _ _ _ _ _
      | exact ih5 _ _ _ _ _ _ _ _ _
      | exact ih6 _ _ _
      | exact lex_Lines.mono _ _
      | exact plnlaw7_first.mono _
      | exact LeO.none _
      | refine LeO.ite ?_ ?_
      | refine LeO.bind ?_ (fun _ => ?_)
theorem plnlaw7_LexWhere.mono : ∀ a0 k, LeO (plnlaw7_LexWhere.f k a0) (plnlaw7_LexWhere.f (k + 1) a0) := by
  intro a0 k
  obtain ⟨ih0, ih1, ih2, ih3, ih4, ih5, ih6⟩ := plnlaw7_LexWhere.mono_l k
  unfold plnlaw7_LexWhere.f
  repeat' first
      | (with_reducible exact ih0 _ _ _ _ _)
      | (with_reducible exact ih1 _ _ _)
      | (with_reducible exact ih2 _ _ _ _ _)
      | (with_reducible exact ih3 _ _ _ _ _ _)
      | (with_reducible exact ih4 _ _ _ _ _ _ _ _ _)
      | (with_reducible exact ih5 _ _ _ _ _ _ _ _ _)
      | (with_reducible exact ih6 _ _ _)
      | (with_reducible exact lex_Lines.mono _ _)
      | (with_reducible exact plnlaw7_first.mono _)
      | (with_reducible exact LeO.refl _)
      | (with_reducible exact LeO.none _)
      | (with_reducible refine LeO.ite ?_ ?_)
      | (with_reducible refine LeO.bind ?_ (fun _ => ?_))
      | exact ih0 _ _ _ _ _
      | exact ih1 _ _ _
      | exact ih2 _ _ _ _ _
      | exact ih3 _ _ _ _ _ _
      | exact ih4 _ _ _ _ _ _ _ _ _
      | exact ih5 _ _ _ _ _ _ _ _ _
      | exact ih6 _ _ _
      | exact lex_Lines.mono _ _
      | exact plnlaw7_first.mono _
      | exact LeO.none _
      | refine LeO.ite ?_ ?_
      | refine LeO.bind ?_ (fun _ => ?_)
set_option maxHeartbeats 8000000 in
set_option maxRecDepth 100000 in
theorem plnlaw7_LexWhere.calls (k : Nat) (a0 : ByteArray) (r : Bool) (w : World) (h : plnlaw7_LexWhere.f k a0 = some r) :
    Calls Try.prog 6 #[.string a0] w fun e w' => e = .returned (.bool r) ∧ Below w.heap.size w w' := by
  have HB := Aside0.mk (Below.refl w.heap.size w)
  have H : ((plnlaw7_first.f k).bind fun t134 => (if t134 = true then (if (a0.size : Int) > 1000 then ((plnlaw7_first.f k).bind fun t135 => (some t135)) else ((lex_Lines.f k a0).bind fun bt136 => (plnlaw7_LexWhere.l0 k a0 bt136.1 bt136.2.1 bt136.2.2 0))) else (some false))) = some r := h
  clear h
  replace H := Option.bind_eq_some_iff.mp H
  obtain ⟨t134, A20, H⟩ := H
  replace H : (if t134 = true then (if (a0.size : Int) > 1000 then ((plnlaw7_first.f k).bind fun t135 => (some t135)) else ((lex_Lines.f k a0).bind fun bt136 => (plnlaw7_LexWhere.l0 k a0 bt136.1 bt136.2.1 bt136.2.2 0))) else (some false)) = some r := H
  have A2 := Aside0.mk A20
  clear A20
  by_cases c3 : t134 = true
  · subst c3
    have H1 : (if (a0.size : Int) > 1000 then ((plnlaw7_first.f k).bind fun t135 => (some t135)) else ((lex_Lines.f k a0).bind fun bt136 => (plnlaw7_LexWhere.l0 k a0 bt136.1 bt136.2.1 bt136.2.2 0))) = some r := by rw [if_pos rfl] at H; exact H
    clear H
    have H := H1
    clear H1
    by_cases c4 : (a0.size : Int) > 1000
    · rw [if_pos c4] at H
      have c4b0 : decide (1000 < (a0.size : Int)) = true := decide_eq_true c4
      have c4b1 : decide (1000 < a0.size) = true := decide_eq_true (by omega)
      clear c4
      replace H := Option.bind_eq_some_iff.mp H
      obtain ⟨t135, A50, H⟩ := H
      replace H : (some t135) = some r := H
      have A5 := Aside0.mk A50
      clear A50
      obtain rfl := Option.some.inj H
      go_enter Try.func6, Try.ntmps6
      go_wp2_with (first | ((with_reducible refine gate_callee (f := 29) rfl ?_); refine goesL_ (some 16) rfl rfl Try.func29 (by kernel_rfl) rfl #[] rfl (by (try simp only [List.map_toArray, List.map_cons, List.map_nil]); first | done | rfl | (simp only [List.length_drop, List.length_take]; rfl)) ?_; (with_reducible refine (plnlaw7_first.calls k  true _ A2.out).mono ?_); rintro e w6 ⟨rfl, hb⟩; refine ⟨_, rfl, ?_⟩; have n0_ := Aside0.mk (below_step (by repeat (first | (with_reducible first | exact HB.out | apply below_alloc | apply pw_below_drewN | apply below_drew1) | exact HB.out)) hb); clear HB; have HB := n0_; clear n0_; (try clear hb); (try clear hb2); (try clear hk); (try clear hi)) | ((with_reducible refine gate_callee (f := 29) rfl ?_); refine goesL_ (some 21) rfl rfl Try.func29 (by kernel_rfl) rfl #[] rfl (by (try simp only [List.map_toArray, List.map_cons, List.map_nil]); first | done | rfl | (simp only [List.length_drop, List.length_take]; rfl)) ?_; (with_reducible refine (plnlaw7_first.calls k  t135 _ A5.out).mono ?_); rintro e w7 ⟨rfl, hb⟩; refine ⟨_, rfl, ?_⟩; have n0_ := Aside0.mk (below_step (by repeat (first | (with_reducible first | exact HB.out | apply below_alloc | apply pw_below_drewN | apply below_drew1) | exact HB.out)) hb); clear HB; have HB := n0_; clear n0_; (try clear hb); (try clear hb2); (try clear hk); (try clear hi)))
      go_ret
      exact ⟨by first | rfl | (simp [errW_none, errW_some] <;> rfl) | (simp [*, errW_none, errW_some] <;> rfl), by repeat (first | (with_reducible first | exact HB.out | apply below_alloc | apply pw_below_drewN | apply below_drew1) | exact HB.out)⟩
    · rw [if_neg c4] at H
      have c4b0 : decide (1000 < (a0.size : Int)) = false := decide_eq_false c4
      have c4b1 : decide (1000 < a0.size) = false := decide_eq_false (by omega)
      clear c4
      replace H := Option.bind_eq_some_iff.mp H
      obtain ⟨⟨t136, t137, t138⟩, A80, H⟩ := H
      replace H : (plnlaw7_LexWhere.l0 k a0 t136 t137 t138 0) = some r := H
      have A8 := Aside0.mk A80
      clear A80
      have H' := Aside0.mk H
      clear H
      go_enter Try.func6, Try.ntmps6
      go_wp2_with (first | ((with_reducible refine gate_callee (f := 29) rfl ?_); refine goesL_ (some 16) rfl rfl Try.func29 (by kernel_rfl) rfl #[] rfl (by (try simp only [List.map_toArray, List.map_cons, List.map_nil]); first | done | rfl | (simp only [List.length_drop, List.length_take]; rfl)) ?_; (with_reducible refine (plnlaw7_first.calls k  true _ A2.out).mono ?_); rintro e w9 ⟨rfl, hb⟩; refine ⟨_, rfl, ?_⟩; have n0_ := Aside0.mk (below_step (by repeat (first | (with_reducible first | exact HB.out | apply below_alloc | apply pw_below_drewN | apply below_drew1) | exact HB.out)) hb); clear HB; have HB := n0_; clear n0_; (try clear hb); (try clear hb2); (try clear hk); (try clear hi)) | ((with_reducible refine gate_callee (f := 30) rfl ?_); refine goesL_ (some 24) rfl rfl Try.func30 (by kernel_rfl) rfl #[.string a0] rfl (by (try simp only [List.map_toArray, List.map_cons, List.map_nil]); first | done | rfl | (simp only [List.length_drop, List.length_take]; rfl)) ?_; (with_reducible refine (lex_Lines.calls k a0 t136 t137 t138 _ A8.out).mono ?_); rintro e w10 ⟨v139, rfl, ho0, hb⟩; refine ⟨_, rfl, ?_⟩; have n0_ := Aside0.mk (Kd.S_lower ho0 (below_size (by repeat (first | (with_reducible first | exact HB.out | apply below_alloc | apply pw_below_drewN | apply below_drew1) | exact HB.out)))); have n1_ := Aside0.mk (below_step (by repeat (first | (with_reducible first | exact HB.out | apply below_alloc | apply pw_below_drewN | apply below_drew1) | exact HB.out)) hb); clear HB; have HO140 := n0_; have HB := n1_; clear n0_ n1_; (try clear hb); (try clear hb2); (try clear hk); (try clear hi); (try clear ho0)))
      go_loopg [6] k (fun kq v6 w' => ∃ (x6_1 : Int), v6 = .int .i64 x6_1 ∧ Aside0 (plnlaw7_LexWhere.l0 kq a0 t136 t137 t138 x6_1 = some r) ∧ Aside0 (kq ≤ k) ∧ Aside0 (Kd.S k49 49 w' w.heap.size (fun _ => True) v139 t136) ∧ Aside0 (Below w.heap.size w w'))
      case atStart => exact ⟨(0), (by first | rfl | (simp; done) | (simp [*]; done)), H', ⟨Nat.le_refl _⟩, ⟨by (with_reducible repeat (first | apply Kd.S_alloc | apply Kd.S_drewN | apply Kd.S_drew)); exact HO140.out⟩, ⟨by repeat (first | (with_reducible first | exact HB.out | apply below_alloc | apply pw_below_drewN | apply below_drew1) | exact HB.out)⟩⟩
      case round => as_aux_lemma =>
        clear H'
        try clear c2
        try clear p2
        try clear c3
        try clear c4
        try clear c4b0
        try clear c4b1
        try clear c6
        obtain ⟨x6_1, rfl, HA, HK1, HO_3, HB⟩ := hrel
        cases gk with
        | zero => exact absurd HA.out (by simp [plnlaw7_LexWhere.l0])
        | succ k1 =>
          have H := HA.out
          clear HA
          simp only [plnlaw7_LexWhere.l0] at H
          by_cases c11 : x6_1 < (a0.size : Int)
          · rw [if_pos c11] at H
            have c11b0 : decide (x6_1 < (a0.size : Int)) = true := decide_eq_true c11
            clear c11
            by_cases c12 : 0 ≤ x6_1
            · rw [if_pos c12] at H
              have c12b0 : decide (0 ≤ x6_1) = true := decide_eq_true c12
              clear c12
              by_cases c14 : (bt a0 x6_1) = 9
              · rw [if_pos c14] at H
                have c14b0 : ((bt a0 x6_1) == 9) = true := beq_iff_eq.mpr c14
                have c14b1 : ((bt a0 x6_1) != 9) = false := bne_eq_false_iff_eq.mpr c14
                clear c14
                have H' := Aside0.mk H
                clear H
                have p13 : 0 ≤ (x6_1 : Int) := of_decide_eq_true (by first | (with_reducible assumption) | assumption)
                have q13 : x6_1 < (a0.size : Int) := of_decide_eq_true (by first | (with_reducible assumption) | assumption)
                have hx13 := bt_at a0 x6_1
                replace p13 := eq_true p13
                replace q13 := eq_true q13
                go_wp2
                go_roundg k1
                case measure => have := HK1.out; omega
                case rel => exact ⟨(wrap64 (x6_1 + 1)), (by first | rfl | (simp; done) | (simp [*]; done)), H', ⟨by have := HK1.out; omega⟩, ⟨by (with_reducible repeat (first | apply Kd.S_alloc | apply Kd.S_drewN | apply Kd.S_drew)); exact HO_3.out⟩, ⟨by repeat (first | (with_reducible first | exact HB.out | apply below_alloc | apply pw_below_drewN | apply below_drew1) | exact HB.out)⟩⟩
              · rw [if_neg c14] at H
                have c14b0 : ((bt a0 x6_1) == 9) = false := beq_eq_false_iff_ne.mpr c14
                have c14b1 : ((bt a0 x6_1) != 9) = true := bne_iff_ne.mpr c14
                by_cases c15 : (bt a0 x6_1) = 10
                · rw [if_pos c15] at H
                  have c15b0 : ((bt a0 x6_1) == 10) = true := beq_iff_eq.mpr c15
                  have c15b1 : ((bt a0 x6_1) != 10) = false := bne_eq_false_iff_eq.mpr c15
                  clear c15
                  have H' := Aside0.mk H
                  clear H
                  have p13 : 0 ≤ (x6_1 : Int) := of_decide_eq_true (by first | (with_reducible assumption) | assumption)
                  have q13 : x6_1 < (a0.size : Int) := of_decide_eq_true (by first | (with_reducible assumption) | assumption)
                  have hx13 := bt_at a0 x6_1
                  replace p13 := eq_true p13
                  replace q13 := eq_true q13
                  go_wp2
                  go_roundg k1
                  case measure => have := HK1.out; omega
                  case rel => exact ⟨(wrap64 (x6_1 + 1)), (by first | rfl | (simp; done) | (simp [*]; done)), H', ⟨by have := HK1.out; omega⟩, ⟨by (with_reducible repeat (first | apply Kd.S_alloc | apply Kd.S_drewN | apply Kd.S_drew)); exact HO_3.out⟩, ⟨by repeat (first | (with_reducible first | exact HB.out | apply below_alloc | apply pw_below_drewN | apply below_drew1) | exact HB.out)⟩⟩
                · rw [if_neg c15] at H
                  have c15b0 : ((bt a0 x6_1) == 10) = false := beq_eq_false_iff_ne.mpr c15
                  have c15b1 : ((bt a0 x6_1) != 10) = true := bne_iff_ne.mpr c15
                  by_cases c16 : (bt a0 x6_1) < 32
                  · rw [if_pos c16] at H
                    have c16b0 : decide ((bt a0 x6_1) < 32) = true := decide_eq_true c16
                    clear c16
                    by_cases c17 : t138 = 1
                    · rw [if_pos c17] at H
                      have c17b0 : (t138 == 1) = true := beq_iff_eq.mpr c17
                      have c17b1 : (t138 != 1) = false := bne_eq_false_iff_eq.mpr c17
                      clear c17
                      by_cases c18 : t137 = x6_1
                      · rw [if_pos c18] at H
                        have c18b0 : (t137 == x6_1) = true := beq_iff_eq.mpr c18
                        have c18b1 : (t137 != x6_1) = false := bne_eq_false_iff_eq.mpr c18
                        clear c18
                        obtain rfl := Option.some.inj H
                        have p13 : 0 ≤ (x6_1 : Int) := of_decide_eq_true (by first | (with_reducible assumption) | assumption)
                        have q13 : x6_1 < (a0.size : Int) := of_decide_eq_true (by first | (with_reducible assumption) | assumption)
                        have hx13 := bt_at a0 x6_1
                        replace p13 := eq_true p13
                        replace q13 := eq_true q13
                        obtain ⟨Ao19, co19, eo19⟩ := Kd.S_slice HO_3.out
                        subst eo19
                        go_wp2
                        go_ret
                        exact ⟨by first | rfl | (simp [errW_none, errW_some] <;> rfl) | (simp [*, errW_none, errW_some] <;> rfl), by repeat (first | (with_reducible first | exact HB.out | apply below_alloc | apply pw_below_drewN | apply below_drew1) | exact HB.out)⟩
                      · rw [if_neg c18] at H
                        have c18b0 : (t137 == x6_1) = false := beq_eq_false_iff_ne.mpr c18
                        have c18b1 : (t137 != x6_1) = true := bne_iff_ne.mpr c18
                        obtain rfl := Option.some.inj H
                        have p13 : 0 ≤ (x6_1 : Int) := of_decide_eq_true (by first | (with_reducible assumption) | assumption)
                        have q13 : x6_1 < (a0.size : Int) := of_decide_eq_true (by first | (with_reducible assumption) | assumption)
                        have hx13 := bt_at a0 x6_1
                        replace p13 := eq_true p13
                        replace q13 := eq_true q13
                        go_wp2
                        go_ret
                        exact ⟨by first | rfl | (simp [errW_none, errW_some] <;> rfl) | (simp [*, errW_none, errW_some] <;> rfl), by repeat (first | (with_reducible first | exact HB.out | apply below_alloc | apply pw_below_drewN | apply below_drew1) | exact HB.out)⟩
                    · rw [if_neg c17] at H
                      have c17b0 : (t138 == 1) = false := beq_eq_false_iff_ne.mpr c17
                      have c17b1 : (t138 != 1) = true := bne_iff_ne.mpr c17
                      obtain rfl := Option.some.inj H
                      have p13 : 0 ≤ (x6_1 : Int) := of_decide_eq_true (by first | (with_reducible assumption) | assumption)
                      have q13 : x6_1 < (a0.size : Int) := of_decide_eq_true (by first | (with_reducible assumption) | assumption)
                      have hx13 := bt_at a0 x6_1
                      replace p13 := eq_true p13
                      replace q13 := eq_true q13
                      go_wp2
                      go_ret
                      exact ⟨by first | rfl | (simp [errW_none, errW_some] <;> rfl) | (simp [*, errW_none, errW_some] <;> rfl), by repeat (first | (with_reducible first | exact HB.out | apply below_alloc | apply pw_below_drewN | apply below_drew1) | exact HB.out)⟩
                  · rw [if_neg c16] at H
                    have c16b0 : decide ((bt a0 x6_1) < 32) = false := decide_eq_false c16
                    clear c16
                    by_cases c20 : (bt a0 x6_1) > 126
                    · rw [if_pos c20] at H
                      have c20b0 : decide (126 < (bt a0 x6_1)) = true := decide_eq_true c20
                      clear c20
                      by_cases c21 : t138 = 1
                      · rw [if_pos c21] at H
                        have c21b0 : (t138 == 1) = true := beq_iff_eq.mpr c21
                        have c21b1 : (t138 != 1) = false := bne_eq_false_iff_eq.mpr c21
                        clear c21
                        by_cases c22 : t137 = x6_1
                        · rw [if_pos c22] at H
                          have c22b0 : (t137 == x6_1) = true := beq_iff_eq.mpr c22
                          have c22b1 : (t137 != x6_1) = false := bne_eq_false_iff_eq.mpr c22
                          clear c22
                          obtain rfl := Option.some.inj H
                          have p13 : 0 ≤ (x6_1 : Int) := of_decide_eq_true (by first | (with_reducible assumption) | assumption)
                          have q13 : x6_1 < (a0.size : Int) := of_decide_eq_true (by first | (with_reducible assumption) | assumption)
                          have hx13 := bt_at a0 x6_1
                          replace p13 := eq_true p13
                          replace q13 := eq_true q13
                          obtain ⟨Ao23, co23, eo23⟩ := Kd.S_slice HO_3.out
                          subst eo23
                          go_wp2
                          go_ret
                          exact ⟨by first | rfl | (simp [errW_none, errW_some] <;> rfl) | (simp [*, errW_none, errW_some] <;> rfl), by repeat (first | (with_reducible first | exact HB.out | apply below_alloc | apply pw_below_drewN | apply below_drew1) | exact HB.out)⟩
                        · rw [if_neg c22] at H
                          have c22b0 : (t137 == x6_1) = false := beq_eq_false_iff_ne.mpr c22
                          have c22b1 : (t137 != x6_1) = true := bne_iff_ne.mpr c22
                          obtain rfl := Option.some.inj H
                          have p13 : 0 ≤ (x6_1 : Int) := of_decide_eq_true (by first | (with_reducible assumption) | assumption)
                          have q13 : x6_1 < (a0.size : Int) := of_decide_eq_true (by first | (with_reducible assumption) | assumption)
                          have hx13 := bt_at a0 x6_1
                          replace p13 := eq_true p13
                          replace q13 := eq_true q13
                          go_wp2
                          go_ret
                          exact ⟨by first | rfl | (simp [errW_none, errW_some] <;> rfl) | (simp [*, errW_none, errW_some] <;> rfl), by repeat (first | (with_reducible first | exact HB.out | apply below_alloc | apply pw_below_drewN | apply below_drew1) | exact HB.out)⟩
                      · rw [if_neg c21] at H
                        have c21b0 : (t138 == 1) = false := beq_eq_false_iff_ne.mpr c21
                        have c21b1 : (t138 != 1) = true := bne_iff_ne.mpr c21
                        obtain rfl := Option.some.inj H
                        have p13 : 0 ≤ (x6_1 : Int) := of_decide_eq_true (by first | (with_reducible assumption) | assumption)
                        have q13 : x6_1 < (a0.size : Int) := of_decide_eq_true (by first | (with_reducible assumption) | assumption)
                        have hx13 := bt_at a0 x6_1
                        replace p13 := eq_true p13
                        replace q13 := eq_true q13
                        go_wp2
                        go_ret
                        exact ⟨by first | rfl | (simp [errW_none, errW_some] <;> rfl) | (simp [*, errW_none, errW_some] <;> rfl), by repeat (first | (with_reducible first | exact HB.out | apply below_alloc | apply pw_below_drewN | apply below_drew1) | exact HB.out)⟩
                    · rw [if_neg c20] at H
                      have c20b0 : decide (126 < (bt a0 x6_1)) = false := decide_eq_false c20
                      clear c20
                      have H' := Aside0.mk H
                      clear H
                      have p13 : 0 ≤ (x6_1 : Int) := of_decide_eq_true (by first | (with_reducible assumption) | assumption)
                      have q13 : x6_1 < (a0.size : Int) := of_decide_eq_true (by first | (with_reducible assumption) | assumption)
                      have hx13 := bt_at a0 x6_1
                      replace p13 := eq_true p13
                      replace q13 := eq_true q13
                      go_wp2
                      go_roundg k1
                      case measure => have := HK1.out; omega
                      case rel => exact ⟨(wrap64 (x6_1 + 1)), (by first | rfl | (simp; done) | (simp [*]; done)), H', ⟨by have := HK1.out; omega⟩, ⟨by (with_reducible repeat (first | apply Kd.S_alloc | apply Kd.S_drewN | apply Kd.S_drew)); exact HO_3.out⟩, ⟨by repeat (first | (with_reducible first | exact HB.out | apply below_alloc | apply pw_below_drewN | apply below_drew1) | exact HB.out)⟩⟩
            · rw [if_neg c12] at H
              exact absurd H (by simp)
          · rw [if_neg c11] at H
            have c11b0 : decide (x6_1 < (a0.size : Int)) = false := decide_eq_false c11
            clear c11
            have HC24 := Aside0.mk H
            clear H
            go_upto_region 12 with (fail)
            go_cut [68] (fun v68 wc => ∃ (kq : Nat) (x68_23 : Bool), v68 = .bool x68_23 ∧ Aside0 (plnlaw7_LexWhere.j1 kq a0 t136 x68_23 = some r) ∧ Aside0 (kq ≤ k1) ∧ Aside0 (Kd.S k49 49 wc w.heap.size (fun _ => True) v139 t136) ∧ Aside0 (Below w.heap.size w wc))
            case first =>
              have H := HC24.out
              clear HC24
              by_cases c25 : t138 = 0
              · rw [if_pos c25] at H
                have c25b0 : (t138 == 0) = true := beq_iff_eq.mpr c25
                have c25b1 : (t138 != 0) = false := bne_eq_false_iff_eq.mpr c25
                clear c25
                (first | rw [c25b0] | (simp only [i64_w, i32_w]; rw [c25b0]) | skip)
                have H' := Aside0.mk H
                clear H
                go_wp2
                go_meet
                case rel => exact ⟨_, ((t137 != 0)), (by first | rfl | (simp; done) | (simp [*]; done)), H', ⟨by have := HK1.out; first | omega | exact Nat.le_refl _⟩, ⟨by (with_reducible repeat (first | apply Kd.S_alloc | apply Kd.S_drewN | apply Kd.S_drew)); exact HO_3.out⟩, ⟨by repeat (first | (with_reducible first | exact HB.out | apply below_alloc | apply pw_below_drewN | apply below_drew1) | exact HB.out)⟩⟩
              · rw [if_neg c25] at H
                have c25b0 : (t138 == 0) = false := beq_eq_false_iff_ne.mpr c25
                have c25b1 : (t138 != 0) = true := bne_iff_ne.mpr c25
                (first | rw [c25b0] | (simp only [i64_w, i32_w]; rw [c25b0]) | skip)
                have H' := Aside0.mk H
                clear H
                go_wp2
                go_meet
                case rel => exact ⟨_, (true), (by first | rfl | (simp; done) | (simp [*]; done)), H', ⟨by have := HK1.out; first | omega | exact Nat.le_refl _⟩, ⟨by (with_reducible repeat (first | apply Kd.S_alloc | apply Kd.S_drewN | apply Kd.S_drew)); exact HO_3.out⟩, ⟨by repeat (first | (with_reducible first | exact HB.out | apply below_alloc | apply pw_below_drewN | apply below_drew1) | exact HB.out)⟩⟩
            case rest => as_aux_lemma =>
              clear HC24
              try clear c1
              try clear p1
              try clear q1
              try clear hx1
              try clear c2
              try clear p2
              try clear c3
              try clear c4
              try clear c4b0
              try clear c4b1
              try clear c6
              try clear p6
              try clear c11
              try clear c11b0
              try clear c12
              try clear c12b0
              try clear p13
              try clear q13
              try clear hx13
              try clear c14
              try clear c14b0
              try clear c14b1
              try clear c15
              try clear c15b0
              try clear c15b1
              try clear c16
              try clear c16b0
              try clear c17
              try clear c17b0
              try clear c17b1
              try clear c18
              try clear c18b0
              try clear c18b1
              try clear c20
              try clear c20b0
              try clear c21
              try clear c21b0
              try clear c21b1
              try clear c22
              try clear c22b0
              try clear c22b1
              try clear c25
              try clear c25b0
              try clear c25b1
              try clear p13
              try clear p2
              try clear q13
              obtain ⟨kq, x68_23, rfl, HA, HJ23, HO_3, HB⟩ := hcut
              cases kq with
              | zero => exact absurd HA.out (by simp [plnlaw7_LexWhere.j1])
              | succ kj23 =>
                have H := HA.out
                clear HA
                simp only [plnlaw7_LexWhere.j1] at H
                by_cases c26 : x68_23 = true
                · subst c26
                  have H1 : (some false) = some r := by rw [if_pos rfl] at H; exact H
                  clear H
                  have H := H1
                  clear H1
                  obtain rfl := Option.some.inj H
                  go_wp2
                  go_ret
                  exact ⟨by first | rfl | (simp [errW_none, errW_some] <;> rfl) | (simp [*, errW_none, errW_some] <;> rfl), by repeat (first | (with_reducible first | exact HB.out | apply below_alloc | apply pw_below_drewN | apply below_drew1) | exact HB.out)⟩
                · replace c26 := Bool.eq_false_iff.mpr c26
                  subst c26
                  have H1 : (plnlaw7_LexWhere.l1 kj23 a0 t136 0 false 0) = some r := by rw [if_neg (show ¬ (false = true) by decide)] at H; exact H
                  clear H
                  have H := H1
                  clear H1
                  have H' := Aside0.mk H
                  clear H
                  go_wp2
                  go_loopg [8, 9, 10] kj23 (fun kq v8 v9 v10 w' => ∃ (x8_3 : Int) (x9_3 : Bool) (x10_3 : Int), v8 = .int .i64 x8_3 ∧ v9 = .bool x9_3 ∧ v10 = .int .i64 x10_3 ∧ Aside0 (plnlaw7_LexWhere.l1 kq a0 t136 x8_3 x9_3 x10_3 = some r) ∧ Aside0 (kq ≤ kj23) ∧ Aside0 (Kd.S k49 49 w' w.heap.size (fun _ => True) v139 t136) ∧ Aside0 (Below w.heap.size w w'))
                  case atStart => exact ⟨(0), (false), (0), (by first | rfl | (simp; done) | (simp [*]; done)), (by first | rfl | (simp; done) | (simp [*]; done)), (by first | rfl | (simp; done) | (simp [*]; done)), H', ⟨Nat.le_refl _⟩, ⟨by (with_reducible repeat (first | apply Kd.S_alloc | apply Kd.S_drewN | apply Kd.S_drew)); exact HO_3.out⟩, ⟨by repeat (first | (with_reducible first | exact HB.out | apply below_alloc | apply pw_below_drewN | apply below_drew1) | exact HB.out)⟩⟩
                  case round => as_aux_lemma =>
                    clear H'
                    try clear c1
                    try clear p1
                    try clear q1
                    try clear hx1
                    try clear c2
                    try clear p2
                    try clear c3
                    try clear c4
                    try clear c4b0
                    try clear c4b1
                    try clear c6
                    try clear p6
                    try clear c11
                    try clear c11b0
                    try clear c12
                    try clear c12b0
                    try clear p13
                    try clear q13
                    try clear hx13
                    try clear c14
                    try clear c14b0
                    try clear c14b1
                    try clear c15
                    try clear c15b0
                    try clear c15b1
                    try clear c16
                    try clear c16b0
                    try clear c17
                    try clear c17b0
                    try clear c17b1
                    try clear c18
                    try clear c18b0
                    try clear c18b1
                    try clear c20
                    try clear c20b0
                    try clear c21
                    try clear c21b0
                    try clear c21b1
                    try clear c22
                    try clear c22b0
                    try clear c22b1
                    try clear c25
                    try clear c25b0
                    try clear c25b1
                    try clear c26
                    try clear p1
                    try clear p13
                    try clear p2
                    try clear p6
                    try clear q1
                    try clear q13
                    obtain ⟨x8_3, x9_3, x10_3, rfl, rfl, rfl, HA, HK3, HO_3, HB⟩ := hrel
                    cases gk with
                    | zero => exact absurd HA.out (by simp [plnlaw7_LexWhere.l1])
                    | succ k3 =>
                      have H := HA.out
                      clear HA
                      simp only [plnlaw7_LexWhere.l1] at H
                      by_cases c27 : x10_3 < (t136.length : Int)
                      · rw [if_pos c27] at H
                        have c27b0 : decide (x10_3 < (t136.length : Int)) = true := decide_eq_true c27
                        clear c27
                        by_cases c28 : 0 ≤ x10_3
                        · rw [if_pos c28] at H
                          have c28b0 : decide (0 ≤ x10_3) = true := decide_eq_true c28
                          clear c28
                          by_cases c29 : (((rd_T49 t136 x10_3).f0).length : Int) = 0
                          · rw [if_pos c29] at H
                            have c29b0 : ((((rd_T49 t136 x10_3).f0).length : Int) == 0) = true := beq_iff_eq.mpr c29
                            have c29b1 : ((((rd_T49 t136 x10_3).f0).length : Int) != 0) = false := bne_eq_false_iff_eq.mpr c29
                            clear c29
                            obtain rfl := Option.some.inj H
                            obtain ⟨Ao30, co30, eo30⟩ := Kd.S_slice HO_3.out
                            subst eo30
                            have p141 : 0 ≤ (x10_3 : Int) := of_decide_eq_true (by first | (with_reducible assumption) | assumption)
                            have q141 : x10_3 < (t136.length : Int) := of_decide_eq_true (by first | (with_reducible assumption) | assumption)
                            obtain ⟨ad141, A141_0, c141_0, e141, hx141_0, hl141_0, hi141_0⟩ := at_T49 (Kd.S_reads' HO_3.out).2.2 x10_3 p141 q141
                            cases e141
                            obtain ⟨ce141, hce141, hMe141, hcc141⟩ := Kd.S_get HO_3.out z49 x10_3 p141 (by first | exact q141 | exact of_decide_eq_true (by first | (with_reducible assumption) | assumption) | (have e_ := (Kd.S_reads' HO_3.out).1; omega))
                            obtain ⟨ve141_0, rfl, ge141_0⟩ := k49_openM hMe141
                            have hv141_0 := hcc141 0 _ rfl
                            rw [Nat.add_zero, show (k49).sz = 1 from rfl, Nat.mul_one] at hv141_0
                            replace hv141_0 := Option.some.inj (hv141_0.symm.trans hx141_0)
                            rw [hv141_0] at ge141_0
                            have HL141_0 := Aside0.mk (show Kd.R k51 51 _ _ _ _ ((rd_T49 t136 x10_3).f0) from ge141_0)
                            clear hv141_0 ge141_0
                            clear hcc141 hce141
                            have HR141_0 := Aside0.mk hi141_0
                            have HC141_0 := Aside0.mk hl141_0
                            clear hi141_0 hl141_0
                            replace p141 := eq_true p141
                            replace q141 := eq_true q141
                            go_wp2
                            go_ret
                            exact ⟨by first | rfl | (simp [errW_none, errW_some] <;> rfl) | (simp [*, errW_none, errW_some] <;> rfl), by repeat (first | (with_reducible first | exact HB.out | apply below_alloc | apply pw_below_drewN | apply below_drew1) | exact HB.out)⟩
                          · rw [if_neg c29] at H
                            have c29b0 : ((((rd_T49 t136 x10_3).f0).length : Int) == 0) = false := beq_eq_false_iff_ne.mpr c29
                            have c29b1 : ((((rd_T49 t136 x10_3).f0).length : Int) != 0) = true := bne_iff_ne.mpr c29
                            have c29b2 : ¬ (((rd_T49 t136 x10_3).f0) = []) := fun h_ => c29 (by rw [h_]; rfl)
                            have H' := Aside0.mk H
                            clear H
                            obtain ⟨Ao31, co31, eo31⟩ := Kd.S_slice HO_3.out
                            subst eo31
                            have p141 : 0 ≤ (x10_3 : Int) := of_decide_eq_true (by first | (with_reducible assumption) | assumption)
                            have q141 : x10_3 < (t136.length : Int) := of_decide_eq_true (by first | (with_reducible assumption) | assumption)
                            obtain ⟨ad141, A141_0, c141_0, e141, hx141_0, hl141_0, hi141_0⟩ := at_T49 (Kd.S_reads' HO_3.out).2.2 x10_3 p141 q141
                            cases e141
                            obtain ⟨ce141, hce141, hMe141, hcc141⟩ := Kd.S_get HO_3.out z49 x10_3 p141 (by first | exact q141 | exact of_decide_eq_true (by first | (with_reducible assumption) | assumption) | (have e_ := (Kd.S_reads' HO_3.out).1; omega))
                            obtain ⟨ve141_0, rfl, ge141_0⟩ := k49_openM hMe141
                            have hv141_0 := hcc141 0 _ rfl
                            rw [Nat.add_zero, show (k49).sz = 1 from rfl, Nat.mul_one] at hv141_0
                            replace hv141_0 := Option.some.inj (hv141_0.symm.trans hx141_0)
                            rw [hv141_0] at ge141_0
                            have HL141_0 := Aside0.mk (show Kd.R k51 51 _ _ _ _ ((rd_T49 t136 x10_3).f0) from ge141_0)
                            clear hv141_0 ge141_0
                            clear hcc141 hce141
                            have HR141_0 := Aside0.mk hi141_0
                            have HC141_0 := Aside0.mk hl141_0
                            clear hi141_0 hl141_0
                            replace p141 := eq_true p141
                            replace q141 := eq_true q141
                            go_wp2
                            go_loopg [8, 9, 11] k3 (fun kq v8 v9 v11 w' => ∃ (x8_4 : Int) (x9_4 : Bool) (x11_4 : Int), v8 = .int .i64 x8_4 ∧ v9 = .bool x9_4 ∧ v11 = .int .i64 x11_4 ∧ Aside0 (plnlaw7_LexWhere.l2 kq a0 t136 x8_4 x9_4 x10_3 x11_4 = some r) ∧ Aside0 (kq ≤ k3) ∧ Aside0 (Kd.S k49 49 w' w.heap.size (fun _ => True) (.slice (some ad141) t136.length co31) t136) ∧ Aside0 (Kd.C k51 w' A141_0 ((rd_T49 t136 x10_3).f0).length ((rd_T49 t136 x10_3).f0)) ∧ Aside0 (Below w.heap.size w w'))
                            case atStart => exact ⟨(x8_3), (x9_3), (0), (by first | rfl | (simp; done) | (simp [*]; done)), (by first | rfl | (simp; done) | (simp [*]; done)), (by first | rfl | (simp; done) | (simp [*]; done)), H', ⟨Nat.le_refl _⟩, ⟨by (with_reducible repeat (first | apply Kd.S_alloc | apply Kd.S_drewN | apply Kd.S_drew)); exact HO_3.out⟩, ⟨by repeat (first | (with_reducible exact HR141_0.out) | (with_reducible refine Kd.C_alloc ?_ _) | (with_reducible refine Kd.C_drewN ?_ _) | (with_reducible refine Kd.C_drew ?_) | exact HR141_0.out)⟩, ⟨by repeat (first | (with_reducible first | exact HB.out | apply below_alloc | apply pw_below_drewN | apply below_drew1) | exact HB.out)⟩⟩
                            case round => as_aux_lemma =>
                              clear H'
                              try clear c1
                              try clear p1
                              try clear q1
                              try clear hx1
                              try clear c2
                              try clear p2
                              try clear c3
                              try clear c4
                              try clear c4b0
                              try clear c4b1
                              try clear c6
                              try clear p6
                              try clear c11
                              try clear c11b0
                              try clear c12
                              try clear c12b0
                              try clear p13
                              try clear q13
                              try clear hx13
                              try clear c14
                              try clear c14b0
                              try clear c14b1
                              try clear p14
                              try clear q14
                              try clear hx14
                              try clear c15
                              try clear c15b0
                              try clear c15b1
                              try clear c16
                              try clear c16b0
                              try clear c17
                              try clear c17b0
                              try clear c17b1
                              try clear c18
                              try clear c18b0
                              try clear c18b1
                              try clear c20
                              try clear c20b0
                              try clear c21
                              try clear c21b0
                              try clear c21b1
                              try clear c22
                              try clear c22b0
                              try clear c22b1
                              try clear c25
                              try clear c25b0
                              try clear c25b1
                              try clear c26
                              try clear c27
                              try clear c27b0
                              try clear c28
                              try clear c28b0
                              try clear c29
                              try clear c29b0
                              try clear c29b1
                              try clear c29b2
                              try clear c30
                              try clear hx141_0
                              try clear p1
                              try clear p13
                              try clear p141
                              try clear p2
                              try clear p6
                              try clear q1
                              try clear q13
                              try clear q141
                              obtain ⟨x8_4, x9_4, x11_4, rfl, rfl, rfl, HA, HK4, HO_3, HR141_0, HB⟩ := hrel
                              obtain ⟨wq, rfl⟩ : ∃ wq : World, wq = wr := ⟨_, rfl⟩
                              cases gk with
                              | zero => exact absurd HA.out (by simp [plnlaw7_LexWhere.l2])
                              | succ k4 =>
                                have H := HA.out
                                clear HA
                                simp only [plnlaw7_LexWhere.l2] at H
                                by_cases c32 : 0 ≤ x10_3
                                · rw [if_pos c32] at H
                                  have c32b0 : decide (0 ≤ x10_3) = true := decide_eq_true c32
                                  clear c32
                                  by_cases c33 : x10_3 < (t136.length : Int)
                                  · rw [if_pos c33] at H
                                    have c33b0 : decide (x10_3 < (t136.length : Int)) = true := decide_eq_true c33
                                    clear c33
                                    by_cases c34 : x11_4 < (((rd_T49 t136 x10_3).f0).length : Int)
                                    · rw [if_pos c34] at H
                                      have c34b0 : decide (x11_4 < (((rd_T49 t136 x10_3).f0).length : Int)) = true := decide_eq_true c34
                                      clear c34
                                      by_cases c35 : 0 ≤ x11_4
                                      · rw [if_pos c35] at H
                                        have c35b0 : decide (0 ≤ x11_4) = true := decide_eq_true c35
                                        clear c35
                                        have HC36 := Aside0.mk H
                                        clear H
                                        have p142 : 0 ≤ (x10_3 : Int) := of_decide_eq_true (by first | (with_reducible assumption) | assumption)
                                        have q142 : x10_3 < (t136.length : Int) := of_decide_eq_true (by first | (with_reducible assumption) | assumption)
                                        obtain ⟨ad142, A142_0, c142_0, e142, hx142_0, hl142_0, hi142_0⟩ := at_T49 (Kd.S_reads' HO_3.out).2.2 x10_3 p142 q142
                                        obtain rfl : ad141 = ad142 := (by injection e142)
                                        obtain ⟨ce142, hce142, hMe142, hcc142⟩ := Kd.S_get HO_3.out z49 x10_3 p142 (by first | exact q142 | exact of_decide_eq_true (by first | (with_reducible assumption) | assumption) | (have e_ := (Kd.S_reads' HO_3.out).1; omega))
                                        obtain ⟨ve142_0, rfl, ge142_0⟩ := k49_openM hMe142
                                        have hv142_0 := hcc142 0 _ rfl
                                        rw [Nat.add_zero, show (k49).sz = 1 from rfl, Nat.mul_one] at hv142_0
                                        replace hv142_0 := Option.some.inj (hv142_0.symm.trans hx142_0)
                                        rw [hv142_0] at ge142_0
                                        have HL142_0 := Aside0.mk (show Kd.R k51 51 _ _ _ _ ((rd_T49 t136 x10_3).f0) from ge142_0)
                                        clear hv142_0 ge142_0
                                        clear hcc142 hce142
                                        have HR142_0 := Aside0.mk hi142_0
                                        have HC142_0 := Aside0.mk hl142_0
                                        clear hi142_0 hl142_0
                                        replace p142 := eq_true p142
                                        replace q142 := eq_true q142
                                        have p143 : 0 ≤ (x10_3 : Int) := of_decide_eq_true (by first | (with_reducible assumption) | assumption)
                                        have q143 : x10_3 < (t136.length : Int) := of_decide_eq_true (by first | (with_reducible assumption) | assumption)
                                        obtain ⟨ad143, A143_0, c143_0, e143, hx143_0, hl143_0, hi143_0⟩ := at_T49 (Kd.S_reads' HO_3.out).2.2 x10_3 p143 q143
                                        obtain rfl : ad141 = ad143 := (by injection e143)
                                        obtain ⟨ce143, hce143, hMe143, hcc143⟩ := Kd.S_get HO_3.out z49 x10_3 p143 (by first | exact q143 | exact of_decide_eq_true (by first | (with_reducible assumption) | assumption) | (have e_ := (Kd.S_reads' HO_3.out).1; omega))
                                        obtain ⟨ve143_0, rfl, ge143_0⟩ := k49_openM hMe143
                                        have hv143_0 := hcc143 0 _ rfl
                                        rw [Nat.add_zero, show (k49).sz = 1 from rfl, Nat.mul_one] at hv143_0
                                        replace hv143_0 := Option.some.inj (hv143_0.symm.trans hx143_0)
                                        rw [hv143_0] at ge143_0
                                        have HL143_0 := Aside0.mk (show Kd.R k51 51 _ _ _ _ ((rd_T49 t136 x10_3).f0) from ge143_0)
                                        clear hv143_0 ge143_0
                                        clear hcc143 hce143
                                        have HR143_0 := Aside0.mk hi143_0
                                        have HC143_0 := Aside0.mk hl143_0
                                        clear hi143_0 hl143_0
                                        replace p143 := eq_true p143
                                        replace q143 := eq_true q143
                                        have ea_ := Option.some.inj (hx142_0.symm.trans hx143_0)
                                        injection ea_ with ea_ en_ ec_
                                        subst ea_
                                        subst ec_
                                        clear en_
                                        have p144 : 0 ≤ (x11_4 : Int) := of_decide_eq_true (by first | (with_reducible assumption) | assumption)
                                        have q144 : x11_4 < (((rd_T49 t136 x10_3).f0).length : Int) := of_decide_eq_true (by first | (with_reducible assumption) | assumption)
                                        obtain ⟨ad144, e144, hx144_0, hx144_1⟩ := at_T51 (by repeat (first | (with_reducible exact HR143_0.out) | (with_reducible refine Kd.C_alloc ?_ _) | (with_reducible refine Kd.C_drewN ?_ _) | (with_reducible refine Kd.C_drew ?_) | exact HR143_0.out)) x11_4 p144 q144
                                        cases e144
                                        replace p144 := eq_true p144
                                        replace q144 := eq_true q144
                                        go_upto_region 24 with (fail)
                                        have hbw := blk_new wq (.cells #[.string ((rd_T51 ((rd_T49 t136 x10_3).f0) x11_4).f0), .int .i64 ((rd_T51 ((rd_T49 t136 x10_3).f0) x11_4).f1)] 51 (0, 0))
                                        clear HR143_0
                                        have HR143_0 := Aside0.mk (And.intro (blk_cell hbw 0) (blk_cell hbw 1))
                                        clear hbw
                                        go_cut [135] (fun v135 wc => ∃ (kq : Nat) (x135_35 : Bool), v135 = .bool x135_35 ∧ Aside0 (plnlaw7_LexWhere.j4 kq a0 t136 x8_4 x9_4 x10_3 x11_4 ((rd_T51 ((rd_T49 t136 x10_3).f0) x11_4).f0) x135_35 ((rd_T51 ((rd_T49 t136 x10_3).f0) x11_4).f1) = some r) ∧ Aside0 (kq ≤ k4) ∧ Aside0 (Kd.S k49 49 wc w.heap.size (fun _ => True) (.slice (some ad141) t136.length co31) t136) ∧ Aside0 (Kd.C k51 wc A141_0 ((rd_T49 t136 x10_3).f0).length ((rd_T49 t136 x10_3).f0)) ∧ Aside0 (Kd.C k51 wc (some ad144) ((rd_T49 t136 x10_3).f0).length ((rd_T49 t136 x10_3).f0)) ∧ Aside0 (wc.cell? ⟨wq.heap.size, 0, none⟩ = some (.string ((rd_T51 ((rd_T49 t136 x10_3).f0) x11_4).f0)) ∧ wc.cell? ⟨wq.heap.size, 1, none⟩ = some (.int .i64 ((rd_T51 ((rd_T49 t136 x10_3).f0) x11_4).f1))) ∧ Aside0 (Below w.heap.size w wc))
                                        case first =>
                                          have H := HC36.out
                                          clear HC36
                                          by_cases c37 : (((rd_T51 ((rd_T49 t136 x10_3).f0) x11_4).f0).size : Int) = 0
                                          · rw [if_pos c37] at H
                                            have c37b0 : ((((rd_T51 ((rd_T49 t136 x10_3).f0) x11_4).f0).size : Int) == 0) = true := beq_iff_eq.mpr c37
                                            have c37b1 : ((((rd_T51 ((rd_T49 t136 x10_3).f0) x11_4).f0).size : Int) != 0) = false := bne_eq_false_iff_eq.mpr c37
                                            clear c37
                                            (first | rw [c37b0] | (simp only [i64_w, i32_w]; rw [c37b0]) | skip)
                                            have H' := Aside0.mk H
                                            clear H
                                            go_wp2
                                            repeat (go_quiet (fail); try go_wp2)
                                            go_meet
                                            case rel => exact ⟨_, (true), (by first | rfl | (simp; done) | (simp [*]; done)), H', ⟨by have := HK1.out; have := HJ23.out; have := HK3.out; have := HK4.out; first | omega | exact Nat.le_refl _⟩, ⟨by (with_reducible repeat (first | apply Kd.S_alloc | apply Kd.S_drewN | apply Kd.S_drew)); exact HO_3.out⟩, ⟨by repeat (first | (with_reducible exact HR141_0.out) | (with_reducible refine Kd.C_alloc ?_ _) | (with_reducible refine Kd.C_drewN ?_ _) | (with_reducible refine Kd.C_drew ?_) | exact HR141_0.out)⟩, ⟨by repeat (first | (with_reducible exact HR142_0.out) | (with_reducible refine Kd.C_alloc ?_ _) | (with_reducible refine Kd.C_drewN ?_ _) | (with_reducible refine Kd.C_drew ?_) | exact HR142_0.out)⟩, ⟨by repeat (first | (with_reducible exact HR143_0.out) | (with_reducible refine Kd.C_alloc ?_ _) | (with_reducible refine Kd.C_drewN ?_ _) | (with_reducible refine Kd.C_drew ?_) | exact HR143_0.out)⟩, ⟨by repeat (first | (with_reducible first | exact HB.out | apply below_alloc | apply pw_below_drewN | apply below_drew1) | exact HB.out)⟩⟩
                                          · rw [if_neg c37] at H
                                            have c37b0 : ((((rd_T51 ((rd_T49 t136 x10_3).f0) x11_4).f0).size : Int) == 0) = false := beq_eq_false_iff_ne.mpr c37
                                            have c37b1 : ((((rd_T51 ((rd_T49 t136 x10_3).f0) x11_4).f0).size : Int) != 0) = true := bne_iff_ne.mpr c37
                                            (first | rw [c37b0] | (simp only [i64_w, i32_w]; rw [c37b0]) | skip)
                                            by_cases c38 : ((rd_T51 ((rd_T49 t136 x10_3).f0) x11_4).f1) < x8_4
                                            · rw [if_pos c38] at H
                                              have c38b0 : decide (((rd_T51 ((rd_T49 t136 x10_3).f0) x11_4).f1) < x8_4) = true := decide_eq_true c38
                                              clear c38
                                              have H' := Aside0.mk H
                                              clear H
                                              go_wp2
                                              repeat (go_quiet (fail); try go_wp2)
                                              go_meet
                                              case rel => exact ⟨_, (true), (by first | rfl | (simp; done) | (simp [*]; done)), H', ⟨by have := HK1.out; have := HJ23.out; have := HK3.out; have := HK4.out; first | omega | exact Nat.le_refl _⟩, ⟨by (with_reducible repeat (first | apply Kd.S_alloc | apply Kd.S_drewN | apply Kd.S_drew)); exact HO_3.out⟩, ⟨by repeat (first | (with_reducible exact HR141_0.out) | (with_reducible refine Kd.C_alloc ?_ _) | (with_reducible refine Kd.C_drewN ?_ _) | (with_reducible refine Kd.C_drew ?_) | exact HR141_0.out)⟩, ⟨by repeat (first | (with_reducible exact HR142_0.out) | (with_reducible refine Kd.C_alloc ?_ _) | (with_reducible refine Kd.C_drewN ?_ _) | (with_reducible refine Kd.C_drew ?_) | exact HR142_0.out)⟩, ⟨by repeat (first | (with_reducible exact HR143_0.out) | (with_reducible refine Kd.C_alloc ?_ _) | (with_reducible refine Kd.C_drewN ?_ _) | (with_reducible refine Kd.C_drew ?_) | exact HR143_0.out)⟩, ⟨by repeat (first | (with_reducible first | exact HB.out | apply below_alloc | apply pw_below_drewN | apply below_drew1) | exact HB.out)⟩⟩
                                            · rw [if_neg c38] at H
                                              have c38b0 : decide (((rd_T51 ((rd_T49 t136 x10_3).f0) x11_4).f1) < x8_4) = false := decide_eq_false c38
                                              clear c38
                                              by_cases c39 : ((rd_T51 ((rd_T49 t136 x10_3).f0) x11_4).f1) > (wrap64 ((a0.size : Int) - (((rd_T51 ((rd_T49 t136 x10_3).f0) x11_4).f0).size : Int)))
                                              · rw [if_pos c39] at H
                                                have c39b0 : decide ((wrap64 ((a0.size : Int) - (((rd_T51 ((rd_T49 t136 x10_3).f0) x11_4).f0).size : Int))) < ((rd_T51 ((rd_T49 t136 x10_3).f0) x11_4).f1)) = true := decide_eq_true c39
                                                clear c39
                                                have H' := Aside0.mk H
                                                clear H
                                                go_wp2
                                                repeat (go_quiet (fail); try go_wp2)
                                                go_meet
                                                case rel => exact ⟨_, (true), (by first | rfl | (simp; done) | (simp [*]; done)), H', ⟨by have := HK1.out; have := HJ23.out; have := HK3.out; have := HK4.out; first | omega | exact Nat.le_refl _⟩, ⟨by (with_reducible repeat (first | apply Kd.S_alloc | apply Kd.S_drewN | apply Kd.S_drew)); exact HO_3.out⟩, ⟨by repeat (first | (with_reducible exact HR141_0.out) | (with_reducible refine Kd.C_alloc ?_ _) | (with_reducible refine Kd.C_drewN ?_ _) | (with_reducible refine Kd.C_drew ?_) | exact HR141_0.out)⟩, ⟨by repeat (first | (with_reducible exact HR142_0.out) | (with_reducible refine Kd.C_alloc ?_ _) | (with_reducible refine Kd.C_drewN ?_ _) | (with_reducible refine Kd.C_drew ?_) | exact HR142_0.out)⟩, ⟨by repeat (first | (with_reducible exact HR143_0.out) | (with_reducible refine Kd.C_alloc ?_ _) | (with_reducible refine Kd.C_drewN ?_ _) | (with_reducible refine Kd.C_drew ?_) | exact HR143_0.out)⟩, ⟨by repeat (first | (with_reducible first | exact HB.out | apply below_alloc | apply pw_below_drewN | apply below_drew1) | exact HB.out)⟩⟩
                                              · rw [if_neg c39] at H
                                                have c39b0 : decide ((wrap64 ((a0.size : Int) - (((rd_T51 ((rd_T49 t136 x10_3).f0) x11_4).f0).size : Int))) < ((rd_T51 ((rd_T49 t136 x10_3).f0) x11_4).f1)) = false := decide_eq_false c39
                                                clear c39
                                                by_cases c40 : 0 ≤ ((rd_T51 ((rd_T49 t136 x10_3).f0) x11_4).f1)
                                                · rw [if_pos c40] at H
                                                  have c40b0 := eq_true c40
                                                  have c40b1 : decide (0 ≤ ((rd_T51 ((rd_T49 t136 x10_3).f0) x11_4).f1)) = true := decide_eq_true c40
                                                  clear c40
                                                  by_cases c41 : ((rd_T51 ((rd_T49 t136 x10_3).f0) x11_4).f1) ≤ (wrap64 (((rd_T51 ((rd_T49 t136 x10_3).f0) x11_4).f1) + (((rd_T51 ((rd_T49 t136 x10_3).f0) x11_4).f0).size : Int)))
                                                  · rw [if_pos c41] at H
                                                    have c41b0 := eq_true c41
                                                    have c41b1 : decide (((rd_T51 ((rd_T49 t136 x10_3).f0) x11_4).f1) ≤ (wrap64 (((rd_T51 ((rd_T49 t136 x10_3).f0) x11_4).f1) + (((rd_T51 ((rd_T49 t136 x10_3).f0) x11_4).f0).size : Int)))) = true := decide_eq_true c41
                                                    by_cases c42 : (wrap64 (((rd_T51 ((rd_T49 t136 x10_3).f0) x11_4).f1) + (((rd_T51 ((rd_T49 t136 x10_3).f0) x11_4).f0).size : Int))) ≤ (a0.size : Int)
                                                    · rw [if_pos c42] at H
                                                      have c42b0 := eq_true c42
                                                      have c42b1 : decide ((wrap64 (((rd_T51 ((rd_T49 t136 x10_3).f0) x11_4).f1) + (((rd_T51 ((rd_T49 t136 x10_3).f0) x11_4).f0).size : Int))) ≤ (a0.size : Int)) = true := decide_eq_true c42
                                                      have H' := Aside0.mk H
                                                      clear H
                                                      go_wp2
                                                      repeat (go_quiet (fail); try go_wp2)
                                                      go_meet
                                                      case rel => exact ⟨_, (((a0.extract (((rd_T51 ((rd_T49 t136 x10_3).f0) x11_4).f1) : Int).toNat ((wrap64 (((rd_T51 ((rd_T49 t136 x10_3).f0) x11_4).f1) + (((rd_T51 ((rd_T49 t136 x10_3).f0) x11_4).f0).size : Int))) : Int).toNat).toList != ((rd_T51 ((rd_T49 t136 x10_3).f0) x11_4).f0).toList)), (by first | rfl | (simp; done) | (simp [*]; done)), H', ⟨by have := HK1.out; have := HJ23.out; have := HK3.out; have := HK4.out; first | omega | exact Nat.le_refl _⟩, ⟨by (with_reducible repeat (first | apply Kd.S_alloc | apply Kd.S_drewN | apply Kd.S_drew)); exact HO_3.out⟩, ⟨by repeat (first | (with_reducible exact HR141_0.out) | (with_reducible refine Kd.C_alloc ?_ _) | (with_reducible refine Kd.C_drewN ?_ _) | (with_reducible refine Kd.C_drew ?_) | exact HR141_0.out)⟩, ⟨by repeat (first | (with_reducible exact HR142_0.out) | (with_reducible refine Kd.C_alloc ?_ _) | (with_reducible refine Kd.C_drewN ?_ _) | (with_reducible refine Kd.C_drew ?_) | exact HR142_0.out)⟩, ⟨by repeat (first | (with_reducible exact HR143_0.out) | (with_reducible refine Kd.C_alloc ?_ _) | (with_reducible refine Kd.C_drewN ?_ _) | (with_reducible refine Kd.C_drew ?_) | exact HR143_0.out)⟩, ⟨by repeat (first | (with_reducible first | exact HB.out | apply below_alloc | apply pw_below_drewN | apply below_drew1) | exact HB.out)⟩⟩
                                                    · rw [if_neg c42] at H
                                                      exact absurd H (by simp)
                                                  · rw [if_neg c41] at H
                                                    exact absurd H (by simp)
                                                · rw [if_neg c40] at H
                                                  exact absurd H (by simp)
                                        case rest => as_aux_lemma =>
                                          clear HC36
                                          try clear c1
                                          try clear p1
                                          try clear q1
                                          try clear hx1
                                          try clear c2
                                          try clear p2
                                          try clear c3
                                          try clear c4
                                          try clear c4b0
                                          try clear c4b1
                                          try clear c6
                                          try clear p6
                                          try clear c11
                                          try clear c11b0
                                          try clear c12
                                          try clear c12b0
                                          try clear p13
                                          try clear q13
                                          try clear hx13
                                          try clear c14
                                          try clear c14b0
                                          try clear c14b1
                                          try clear p14
                                          try clear q14
                                          try clear hx14
                                          try clear c15
                                          try clear c15b0
                                          try clear c15b1
                                          try clear c16
                                          try clear c16b0
                                          try clear c17
                                          try clear c17b0
                                          try clear c17b1
                                          try clear c18
                                          try clear c18b0
                                          try clear c18b1
                                          try clear c20
                                          try clear c20b0
                                          try clear c21
                                          try clear c21b0
                                          try clear c21b1
                                          try clear c22
                                          try clear c22b0
                                          try clear c22b1
                                          try clear c25
                                          try clear c25b0
                                          try clear c25b1
                                          try clear c26
                                          try clear c27
                                          try clear c27b0
                                          try clear c28
                                          try clear c28b0
                                          try clear c29
                                          try clear c29b0
                                          try clear c29b1
                                          try clear c29b2
                                          try clear c30
                                          try clear c32
                                          try clear c32b0
                                          try clear c33
                                          try clear c33b0
                                          try clear c34
                                          try clear c34b0
                                          try clear c35
                                          try clear c35b0
                                          try clear c37
                                          try clear c37b0
                                          try clear c37b1
                                          try clear c38
                                          try clear c38b0
                                          try clear c39
                                          try clear c39b0
                                          try clear c40
                                          try clear c40b0
                                          try clear c40b1
                                          try clear c41
                                          try clear c41b0
                                          try clear c41b1
                                          try clear c42
                                          try clear c42b0
                                          try clear c42b1
                                          try clear hx141_0
                                          try clear hx142_0
                                          try clear hx143_0
                                          try clear hx144_0
                                          try clear hx144_1
                                          try clear p1
                                          try clear p13
                                          try clear p14
                                          try clear p141
                                          try clear p142
                                          try clear p143
                                          try clear p144
                                          try clear p2
                                          try clear p6
                                          try clear q1
                                          try clear q13
                                          try clear q14
                                          try clear q141
                                          try clear q142
                                          try clear q143
                                          try clear q144
                                          obtain ⟨kq, x135_35, rfl, HA, HJ35, HO_3, HR141_0, HR142_0, HR143_0, HB⟩ := hcut
                                          cases kq with
                                          | zero => exact absurd HA.out (by simp [plnlaw7_LexWhere.j4])
                                          | succ kj35 =>
                                            have H := HA.out
                                            clear HA
                                            simp only [plnlaw7_LexWhere.j4] at H
                                            by_cases c43 : x135_35 = true
                                            · subst c43
                                              have H1 : (some false) = some r := by rw [if_pos rfl] at H; exact H
                                              clear H
                                              have H := H1
                                              clear H1
                                              obtain rfl := Option.some.inj H
                                              go_wp2
                                              go_ret
                                              exact ⟨by first | rfl | (simp [errW_none, errW_some] <;> rfl) | (simp [*, errW_none, errW_some] <;> rfl), by repeat (first | (with_reducible first | exact HB.out | apply below_alloc | apply pw_below_drewN | apply below_drew1) | exact HB.out)⟩
                                            · replace c43 := Bool.eq_false_iff.mpr c43
                                              subst c43
                                              have H1 : (plnlaw7_LexWhere.l3 kj35 a0 t136 x9_4 x10_3 x11_4 ((rd_T51 ((rd_T49 t136 x10_3).f0) x11_4).f0) 0 x8_4 ((rd_T51 ((rd_T49 t136 x10_3).f0) x11_4).f1)) = some r := by rw [if_neg (show ¬ (false = true) by decide)] at H; exact H
                                              clear H
                                              have H := H1
                                              clear H1
                                              have H' := Aside0.mk H
                                              clear H
                                              go_wp2
                                              go_loopg [9, 13, 14] kj35 (fun kq v9 v13 v14 w' => ∃ (x9_6 : Bool) (x13_6 : Int) (x14_6 : Int), v9 = .bool x9_6 ∧ v13 = .int .i64 x13_6 ∧ v14 = .int .i64 x14_6 ∧ Aside0 (plnlaw7_LexWhere.l3 kq a0 t136 x9_6 x10_3 x11_4 ((rd_T51 ((rd_T49 t136 x10_3).f0) x11_4).f0) x13_6 x14_6 ((rd_T51 ((rd_T49 t136 x10_3).f0) x11_4).f1) = some r) ∧ Aside0 (kq ≤ kj35) ∧ Aside0 (Kd.S k49 49 w' w.heap.size (fun _ => True) (.slice (some ad141) t136.length co31) t136) ∧ Aside0 (Kd.C k51 w' A141_0 ((rd_T49 t136 x10_3).f0).length ((rd_T49 t136 x10_3).f0)) ∧ Aside0 (Kd.C k51 w' (some ad144) ((rd_T49 t136 x10_3).f0).length ((rd_T49 t136 x10_3).f0)) ∧ Aside0 (w'.cell? ⟨wq.heap.size, 0, none⟩ = some (.string ((rd_T51 ((rd_T49 t136 x10_3).f0) x11_4).f0)) ∧ w'.cell? ⟨wq.heap.size, 1, none⟩ = some (.int .i64 ((rd_T51 ((rd_T49 t136 x10_3).f0) x11_4).f1))) ∧ Aside0 (Below w.heap.size w w'))
                                              case atStart => exact ⟨(x9_4), (0), (x8_4), (by first | rfl | (simp; done) | (simp [*]; done)), (by first | rfl | (simp; done) | (simp [*]; done)), (by first | rfl | (simp; done) | (simp [*]; done)), H', ⟨Nat.le_refl _⟩, ⟨by (with_reducible repeat (first | apply Kd.S_alloc | apply Kd.S_drewN | apply Kd.S_drew)); exact HO_3.out⟩, ⟨by repeat (first | (with_reducible exact HR141_0.out) | (with_reducible refine Kd.C_alloc ?_ _) | (with_reducible refine Kd.C_drewN ?_ _) | (with_reducible refine Kd.C_drew ?_) | exact HR141_0.out)⟩, ⟨by repeat (first | (with_reducible exact HR142_0.out) | (with_reducible refine Kd.C_alloc ?_ _) | (with_reducible refine Kd.C_drewN ?_ _) | (with_reducible refine Kd.C_drew ?_) | exact HR142_0.out)⟩, ⟨by repeat (first | (with_reducible exact HR143_0.out) | (with_reducible refine Kd.C_alloc ?_ _) | (with_reducible refine Kd.C_drewN ?_ _) | (with_reducible refine Kd.C_drew ?_) | exact HR143_0.out)⟩, ⟨by repeat (first | (with_reducible first | exact HB.out | apply below_alloc | apply pw_below_drewN | apply below_drew1) | exact HB.out)⟩⟩
                                              case round => as_aux_lemma =>
                                                clear H'
                                                try clear c1
                                                try clear p1
                                                try clear q1
                                                try clear hx1
                                                try clear c2
                                                try clear p2
                                                try clear c3
                                                try clear c4
                                                try clear c4b0
                                                try clear c4b1
                                                try clear c6
                                                try clear p6
                                                try clear c11
                                                try clear c11b0
                                                try clear c12
                                                try clear c12b0
                                                try clear p13
                                                try clear q13
                                                try clear hx13
                                                try clear c14
                                                try clear c14b0
                                                try clear c14b1
                                                try clear p14
                                                try clear q14
                                                try clear hx14
                                                try clear c15
                                                try clear c15b0
                                                try clear c15b1
                                                try clear c16
                                                try clear c16b0
                                                try clear c17
                                                try clear c17b0
                                                try clear c17b1
                                                try clear c18
                                                try clear c18b0
                                                try clear c18b1
                                                try clear c20
                                                try clear c20b0
                                                try clear c21
                                                try clear c21b0
                                                try clear c21b1
                                                try clear c22
                                                try clear c22b0
                                                try clear c22b1
                                                try clear c25
                                                try clear c25b0
                                                try clear c25b1
                                                try clear c26
                                                try clear c27
                                                try clear c27b0
                                                try clear c28
                                                try clear c28b0
                                                try clear c29
                                                try clear c29b0
                                                try clear c29b1
                                                try clear c29b2
                                                try clear c30
                                                try clear c32
                                                try clear c32b0
                                                try clear c33
                                                try clear c33b0
                                                try clear c34
                                                try clear c34b0
                                                try clear c35
                                                try clear c35b0
                                                try clear c37
                                                try clear c37b0
                                                try clear c37b1
                                                try clear c38
                                                try clear c38b0
                                                try clear c39
                                                try clear c39b0
                                                try clear c40
                                                try clear c40b0
                                                try clear c40b1
                                                try clear c41
                                                try clear c41b0
                                                try clear c41b1
                                                try clear c42
                                                try clear c42b0
                                                try clear c42b1
                                                try clear c43
                                                try clear hx141_0
                                                try clear hx142_0
                                                try clear hx143_0
                                                try clear hx144_0
                                                try clear hx144_1
                                                try clear p1
                                                try clear p13
                                                try clear p14
                                                try clear p141
                                                try clear p142
                                                try clear p143
                                                try clear p144
                                                try clear p2
                                                try clear p6
                                                try clear q1
                                                try clear q13
                                                try clear q14
                                                try clear q141
                                                try clear q142
                                                try clear q143
                                                try clear q144
                                                obtain ⟨x9_6, x13_6, x14_6, rfl, rfl, rfl, HA, HK6, HO_3, HR141_0, HR142_0, HR143_0, HB⟩ := hrel
                                                cases gk with
                                                | zero => exact absurd HA.out (by simp [plnlaw7_LexWhere.l3])
                                                | succ k6 =>
                                                  have H := HA.out
                                                  clear HA
                                                  simp only [plnlaw7_LexWhere.l3] at H
                                                  by_cases c44 : x14_6 < ((rd_T51 ((rd_T49 t136 x10_3).f0) x11_4).f1)
                                                  · rw [if_pos c44] at H
                                                    have c44b0 : decide (x14_6 < ((rd_T51 ((rd_T49 t136 x10_3).f0) x11_4).f1)) = true := decide_eq_true c44
                                                    clear c44
                                                    by_cases c45 : 0 ≤ x14_6
                                                    · rw [if_pos c45] at H
                                                      have c45b0 : decide (0 ≤ x14_6) = true := decide_eq_true c45
                                                      clear c45
                                                      by_cases c46 : x14_6 < (a0.size : Int)
                                                      · rw [if_pos c46] at H
                                                        have c46b0 : decide (x14_6 < (a0.size : Int)) = true := decide_eq_true c46
                                                        clear c46
                                                        by_cases c48 : (bt a0 x14_6) = 10
                                                        · rw [if_pos c48] at H
                                                          have c48b0 : ((bt a0 x14_6) == 10) = true := beq_iff_eq.mpr c48
                                                          have c48b1 : ((bt a0 x14_6) != 10) = false := bne_eq_false_iff_eq.mpr c48
                                                          clear c48
                                                          have H' := Aside0.mk H
                                                          clear H
                                                          have p47 : 0 ≤ (x14_6 : Int) := of_decide_eq_true (by first | (with_reducible assumption) | assumption)
                                                          have q47 : x14_6 < (a0.size : Int) := of_decide_eq_true (by first | (with_reducible assumption) | assumption)
                                                          have hx47 := bt_at a0 x14_6
                                                          replace p47 := eq_true p47
                                                          replace q47 := eq_true q47
                                                          try (obtain ⟨hw0, hw1⟩ := HR143_0.out)
                                                          go_wp2
                                                          go_roundg k6
                                                          case measure => have := HK1.out; have := HJ23.out; have := HK3.out; have := HK4.out; have := HJ35.out; have := HK6.out; omega
                                                          case rel => exact ⟨(false), (wrap64 (x13_6 + 1)), (wrap64 (x14_6 + 1)), (by first | rfl | (simp; done) | (simp [*]; done)), (by first | rfl | (simp; done) | (simp [*]; done)), (by first | rfl | (simp; done) | (simp [*]; done)), H', ⟨by have := HK1.out; have := HJ23.out; have := HK3.out; have := HK4.out; have := HJ35.out; have := HK6.out; omega⟩, ⟨by (with_reducible repeat (first | apply Kd.S_alloc | apply Kd.S_drewN | apply Kd.S_drew)); exact HO_3.out⟩, ⟨by repeat (first | (with_reducible exact HR141_0.out) | (with_reducible refine Kd.C_alloc ?_ _) | (with_reducible refine Kd.C_drewN ?_ _) | (with_reducible refine Kd.C_drew ?_) | exact HR141_0.out)⟩, ⟨by repeat (first | (with_reducible exact HR142_0.out) | (with_reducible refine Kd.C_alloc ?_ _) | (with_reducible refine Kd.C_drewN ?_ _) | (with_reducible refine Kd.C_drew ?_) | exact HR142_0.out)⟩, ⟨by repeat (first | (with_reducible exact HR143_0.out) | (with_reducible refine Kd.C_alloc ?_ _) | (with_reducible refine Kd.C_drewN ?_ _) | (with_reducible refine Kd.C_drew ?_) | exact HR143_0.out)⟩, ⟨by repeat (first | (with_reducible first | exact HB.out | apply below_alloc | apply pw_below_drewN | apply below_drew1) | exact HB.out)⟩⟩
                                                        · rw [if_neg c48] at H
                                                          have c48b0 : ((bt a0 x14_6) == 10) = false := beq_eq_false_iff_ne.mpr c48
                                                          have c48b1 : ((bt a0 x14_6) != 10) = true := bne_iff_ne.mpr c48
                                                          by_cases c50 : (bt a0 x14_6) = 35
                                                          · rw [if_pos c50] at H
                                                            have c50b0 : ((bt a0 x14_6) == 35) = true := beq_iff_eq.mpr c50
                                                            have c50b1 : ((bt a0 x14_6) != 35) = false := bne_eq_false_iff_eq.mpr c50
                                                            clear c50
                                                            have H' := Aside0.mk H
                                                            clear H
                                                            have p47 : 0 ≤ (x14_6 : Int) := of_decide_eq_true (by first | (with_reducible assumption) | assumption)
                                                            have q47 : x14_6 < (a0.size : Int) := of_decide_eq_true (by first | (with_reducible assumption) | assumption)
                                                            have hx47 := bt_at a0 x14_6
                                                            replace p47 := eq_true p47
                                                            replace q47 := eq_true q47
                                                            have p49 : 0 ≤ (x14_6 : Int) := of_decide_eq_true (by first | (with_reducible assumption) | assumption)
                                                            have q49 : x14_6 < (a0.size : Int) := of_decide_eq_true (by first | (with_reducible assumption) | assumption)
                                                            have hx49 := bt_at a0 x14_6
                                                            replace p49 := eq_true p49
                                                            replace q49 := eq_true q49
                                                            try (obtain ⟨hw0, hw1⟩ := HR143_0.out)
                                                            go_wp2
                                                            go_roundg k6
                                                            case measure => have := HK1.out; have := HJ23.out; have := HK3.out; have := HK4.out; have := HJ35.out; have := HK6.out; omega
                                                            case rel => exact ⟨(true), (x13_6), (wrap64 (x14_6 + 1)), (by first | rfl | (simp; done) | (simp [*]; done)), (by first | rfl | (simp; done) | (simp [*]; done)), (by first | rfl | (simp; done) | (simp [*]; done)), H', ⟨by have := HK1.out; have := HJ23.out; have := HK3.out; have := HK4.out; have := HJ35.out; have := HK6.out; omega⟩, ⟨by (with_reducible repeat (first | apply Kd.S_alloc | apply Kd.S_drewN | apply Kd.S_drew)); exact HO_3.out⟩, ⟨by repeat (first | (with_reducible exact HR141_0.out) | (with_reducible refine Kd.C_alloc ?_ _) | (with_reducible refine Kd.C_drewN ?_ _) | (with_reducible refine Kd.C_drew ?_) | exact HR141_0.out)⟩, ⟨by repeat (first | (with_reducible exact HR142_0.out) | (with_reducible refine Kd.C_alloc ?_ _) | (with_reducible refine Kd.C_drewN ?_ _) | (with_reducible refine Kd.C_drew ?_) | exact HR142_0.out)⟩, ⟨by repeat (first | (with_reducible exact HR143_0.out) | (with_reducible refine Kd.C_alloc ?_ _) | (with_reducible refine Kd.C_drewN ?_ _) | (with_reducible refine Kd.C_drew ?_) | exact HR143_0.out)⟩, ⟨by repeat (first | (with_reducible first | exact HB.out | apply below_alloc | apply pw_below_drewN | apply below_drew1) | exact HB.out)⟩⟩
                                                          · rw [if_neg c50] at H
                                                            have c50b0 : ((bt a0 x14_6) == 35) = false := beq_eq_false_iff_ne.mpr c50
                                                            have c50b1 : ((bt a0 x14_6) != 35) = true := bne_iff_ne.mpr c50
                                                            by_cases c51 : x9_6 = true
                                                            · subst c51
                                                              have H1 : (plnlaw7_LexWhere.l3 k6 a0 t136 true x10_3 x11_4 ((rd_T51 ((rd_T49 t136 x10_3).f0) x11_4).f0) x13_6 (wrap64 (x14_6 + 1)) ((rd_T51 ((rd_T49 t136 x10_3).f0) x11_4).f1)) = some r := by rw [if_pos rfl] at H; exact H
                                                              clear H
                                                              have H := H1
                                                              clear H1
                                                              have H' := Aside0.mk H
                                                              clear H
                                                              have p47 : 0 ≤ (x14_6 : Int) := of_decide_eq_true (by first | (with_reducible assumption) | assumption)
                                                              have q47 : x14_6 < (a0.size : Int) := of_decide_eq_true (by first | (with_reducible assumption) | assumption)
                                                              have hx47 := bt_at a0 x14_6
                                                              replace p47 := eq_true p47
                                                              replace q47 := eq_true q47
                                                              have p49 : 0 ≤ (x14_6 : Int) := of_decide_eq_true (by first | (with_reducible assumption) | assumption)
                                                              have q49 : x14_6 < (a0.size : Int) := of_decide_eq_true (by first | (with_reducible assumption) | assumption)
                                                              have hx49 := bt_at a0 x14_6
                                                              replace p49 := eq_true p49
                                                              replace q49 := eq_true q49
                                                              try (obtain ⟨hw0, hw1⟩ := HR143_0.out)
                                                              go_wp2
                                                              go_roundg k6
                                                              case measure => have := HK1.out; have := HJ23.out; have := HK3.out; have := HK4.out; have := HJ35.out; have := HK6.out; omega
                                                              case rel => exact ⟨(true), (x13_6), (wrap64 (x14_6 + 1)), (by first | rfl | (simp; done) | (simp [*]; done)), (by first | rfl | (simp; done) | (simp [*]; done)), (by first | rfl | (simp; done) | (simp [*]; done)), H', ⟨by have := HK1.out; have := HJ23.out; have := HK3.out; have := HK4.out; have := HJ35.out; have := HK6.out; omega⟩, ⟨by (with_reducible repeat (first | apply Kd.S_alloc | apply Kd.S_drewN | apply Kd.S_drew)); exact HO_3.out⟩, ⟨by repeat (first | (with_reducible exact HR141_0.out) | (with_reducible refine Kd.C_alloc ?_ _) | (with_reducible refine Kd.C_drewN ?_ _) | (with_reducible refine Kd.C_drew ?_) | exact HR141_0.out)⟩, ⟨by repeat (first | (with_reducible exact HR142_0.out) | (with_reducible refine Kd.C_alloc ?_ _) | (with_reducible refine Kd.C_drewN ?_ _) | (with_reducible refine Kd.C_drew ?_) | exact HR142_0.out)⟩, ⟨by repeat (first | (with_reducible exact HR143_0.out) | (with_reducible refine Kd.C_alloc ?_ _) | (with_reducible refine Kd.C_drewN ?_ _) | (with_reducible refine Kd.C_drew ?_) | exact HR143_0.out)⟩, ⟨by repeat (first | (with_reducible first | exact HB.out | apply below_alloc | apply pw_below_drewN | apply below_drew1) | exact HB.out)⟩⟩
                                                            · replace c51 := Bool.eq_false_iff.mpr c51
                                                              subst c51
                                                              have H1 : (if (bt a0 x14_6) = 9 then (plnlaw7_LexWhere.l3 k6 a0 t136 false x10_3 x11_4 ((rd_T51 ((rd_T49 t136 x10_3).f0) x11_4).f0) x13_6 (wrap64 (x14_6 + 1)) ((rd_T51 ((rd_T49 t136 x10_3).f0) x11_4).f1)) else (if (bt a0 x14_6) = 32 then (plnlaw7_LexWhere.l3 k6 a0 t136 false x10_3 x11_4 ((rd_T51 ((rd_T49 t136 x10_3).f0) x11_4).f0) x13_6 (wrap64 (x14_6 + 1)) ((rd_T51 ((rd_T49 t136 x10_3).f0) x11_4).f1)) else (some false))) = some r := by rw [if_neg (show ¬ (false = true) by decide)] at H; exact H
                                                              clear H
                                                              have H := H1
                                                              clear H1
                                                              by_cases c53 : (bt a0 x14_6) = 9
                                                              · rw [if_pos c53] at H
                                                                have c53b0 : ((bt a0 x14_6) == 9) = true := beq_iff_eq.mpr c53
                                                                have c53b1 : ((bt a0 x14_6) != 9) = false := bne_eq_false_iff_eq.mpr c53
                                                                clear c53
                                                                have H' := Aside0.mk H
                                                                clear H
                                                                have p47 : 0 ≤ (x14_6 : Int) := of_decide_eq_true (by first | (with_reducible assumption) | assumption)
                                                                have q47 : x14_6 < (a0.size : Int) := of_decide_eq_true (by first | (with_reducible assumption) | assumption)
                                                                have hx47 := bt_at a0 x14_6
                                                                replace p47 := eq_true p47
                                                                replace q47 := eq_true q47
                                                                have p49 : 0 ≤ (x14_6 : Int) := of_decide_eq_true (by first | (with_reducible assumption) | assumption)
                                                                have q49 : x14_6 < (a0.size : Int) := of_decide_eq_true (by first | (with_reducible assumption) | assumption)
                                                                have hx49 := bt_at a0 x14_6
                                                                replace p49 := eq_true p49
                                                                replace q49 := eq_true q49
                                                                have p52 : 0 ≤ (x14_6 : Int) := of_decide_eq_true (by first | (with_reducible assumption) | assumption)
                                                                have q52 : x14_6 < (a0.size : Int) := of_decide_eq_true (by first | (with_reducible assumption) | assumption)
                                                                have hx52 := bt_at a0 x14_6
                                                                replace p52 := eq_true p52
                                                                replace q52 := eq_true q52
                                                                try (obtain ⟨hw0, hw1⟩ := HR143_0.out)
                                                                go_wp2
                                                                go_roundg k6
                                                                case measure => have := HK1.out; have := HJ23.out; have := HK3.out; have := HK4.out; have := HJ35.out; have := HK6.out; omega
                                                                case rel => exact ⟨(false), (x13_6), (wrap64 (x14_6 + 1)), (by first | rfl | (simp; done) | (simp [*]; done)), (by first | rfl | (simp; done) | (simp [*]; done)), (by first | rfl | (simp; done) | (simp [*]; done)), H', ⟨by have := HK1.out; have := HJ23.out; have := HK3.out; have := HK4.out; have := HJ35.out; have := HK6.out; omega⟩, ⟨by (with_reducible repeat (first | apply Kd.S_alloc | apply Kd.S_drewN | apply Kd.S_drew)); exact HO_3.out⟩, ⟨by repeat (first | (with_reducible exact HR141_0.out) | (with_reducible refine Kd.C_alloc ?_ _) | (with_reducible refine Kd.C_drewN ?_ _) | (with_reducible refine Kd.C_drew ?_) | exact HR141_0.out)⟩, ⟨by repeat (first | (with_reducible exact HR142_0.out) | (with_reducible refine Kd.C_alloc ?_ _) | (with_reducible refine Kd.C_drewN ?_ _) | (with_reducible refine Kd.C_drew ?_) | exact HR142_0.out)⟩, ⟨by repeat (first | (with_reducible exact HR143_0.out) | (with_reducible refine Kd.C_alloc ?_ _) | (with_reducible refine Kd.C_drewN ?_ _) | (with_reducible refine Kd.C_drew ?_) | exact HR143_0.out)⟩, ⟨by repeat (first | (with_reducible first | exact HB.out | apply below_alloc | apply pw_below_drewN | apply below_drew1) | exact HB.out)⟩⟩
                                                              · rw [if_neg c53] at H
                                                                have c53b0 : ((bt a0 x14_6) == 9) = false := beq_eq_false_iff_ne.mpr c53
                                                                have c53b1 : ((bt a0 x14_6) != 9) = true := bne_iff_ne.mpr c53
                                                                by_cases c55 : (bt a0 x14_6) = 32
                                                                · rw [if_pos c55] at H
                                                                  have c55b0 : ((bt a0 x14_6) == 32) = true := beq_iff_eq.mpr c55
                                                                  have c55b1 : ((bt a0 x14_6) != 32) = false := bne_eq_false_iff_eq.mpr c55
                                                                  clear c55
                                                                  have H' := Aside0.mk H
                                                                  clear H
                                                                  have p47 : 0 ≤ (x14_6 : Int) := of_decide_eq_true (by first | (with_reducible assumption) | assumption)
                                                                  have q47 : x14_6 < (a0.size : Int) := of_decide_eq_true (by first | (with_reducible assumption) | assumption)
                                                                  have hx47 := bt_at a0 x14_6
                                                                  replace p47 := eq_true p47
                                                                  replace q47 := eq_true q47
                                                                  have p49 : 0 ≤ (x14_6 : Int) := of_decide_eq_true (by first | (with_reducible assumption) | assumption)
                                                                  have q49 : x14_6 < (a0.size : Int) := of_decide_eq_true (by first | (with_reducible assumption) | assumption)
                                                                  have hx49 := bt_at a0 x14_6
                                                                  replace p49 := eq_true p49
                                                                  replace q49 := eq_true q49
                                                                  have p52 : 0 ≤ (x14_6 : Int) := of_decide_eq_true (by first | (with_reducible assumption) | assumption)
                                                                  have q52 : x14_6 < (a0.size : Int) := of_decide_eq_true (by first | (with_reducible assumption) | assumption)
                                                                  have hx52 := bt_at a0 x14_6
                                                                  replace p52 := eq_true p52
                                                                  replace q52 := eq_true q52
                                                                  have p54 : 0 ≤ (x14_6 : Int) := of_decide_eq_true (by first | (with_reducible assumption) | assumption)
                                                                  have q54 : x14_6 < (a0.size : Int) := of_decide_eq_true (by first | (with_reducible assumption) | assumption)
                                                                  have hx54 := bt_at a0 x14_6
                                                                  replace p54 := eq_true p54
                                                                  replace q54 := eq_true q54
                                                                  try (obtain ⟨hw0, hw1⟩ := HR143_0.out)
                                                                  go_wp2
                                                                  go_roundg k6
                                                                  case measure => have := HK1.out; have := HJ23.out; have := HK3.out; have := HK4.out; have := HJ35.out; have := HK6.out; omega
                                                                  case rel => exact ⟨(false), (x13_6), (wrap64 (x14_6 + 1)), (by first | rfl | (simp; done) | (simp [*]; done)), (by first | rfl | (simp; done) | (simp [*]; done)), (by first | rfl | (simp; done) | (simp [*]; done)), H', ⟨by have := HK1.out; have := HJ23.out; have := HK3.out; have := HK4.out; have := HJ35.out; have := HK6.out; omega⟩, ⟨by (with_reducible repeat (first | apply Kd.S_alloc | apply Kd.S_drewN | apply Kd.S_drew)); exact HO_3.out⟩, ⟨by repeat (first | (with_reducible exact HR141_0.out) | (with_reducible refine Kd.C_alloc ?_ _) | (with_reducible refine Kd.C_drewN ?_ _) | (with_reducible refine Kd.C_drew ?_) | exact HR141_0.out)⟩, ⟨by repeat (first | (with_reducible exact HR142_0.out) | (with_reducible refine Kd.C_alloc ?_ _) | (with_reducible refine Kd.C_drewN ?_ _) | (with_reducible refine Kd.C_drew ?_) | exact HR142_0.out)⟩, ⟨by repeat (first | (with_reducible exact HR143_0.out) | (with_reducible refine Kd.C_alloc ?_ _) | (with_reducible refine Kd.C_drewN ?_ _) | (with_reducible refine Kd.C_drew ?_) | exact HR143_0.out)⟩, ⟨by repeat (first | (with_reducible first | exact HB.out | apply below_alloc | apply pw_below_drewN | apply below_drew1) | exact HB.out)⟩⟩
                                                                · rw [if_neg c55] at H
                                                                  have c55b0 : ((bt a0 x14_6) == 32) = false := beq_eq_false_iff_ne.mpr c55
                                                                  have c55b1 : ((bt a0 x14_6) != 32) = true := bne_iff_ne.mpr c55
                                                                  obtain rfl := Option.some.inj H
                                                                  have p47 : 0 ≤ (x14_6 : Int) := of_decide_eq_true (by first | (with_reducible assumption) | assumption)
                                                                  have q47 : x14_6 < (a0.size : Int) := of_decide_eq_true (by first | (with_reducible assumption) | assumption)
                                                                  have hx47 := bt_at a0 x14_6
                                                                  replace p47 := eq_true p47
                                                                  replace q47 := eq_true q47
                                                                  have p49 : 0 ≤ (x14_6 : Int) := of_decide_eq_true (by first | (with_reducible assumption) | assumption)
                                                                  have q49 : x14_6 < (a0.size : Int) := of_decide_eq_true (by first | (with_reducible assumption) | assumption)
                                                                  have hx49 := bt_at a0 x14_6
                                                                  replace p49 := eq_true p49
                                                                  replace q49 := eq_true q49
                                                                  have p52 : 0 ≤ (x14_6 : Int) := of_decide_eq_true (by first | (with_reducible assumption) | assumption)
                                                                  have q52 : x14_6 < (a0.size : Int) := of_decide_eq_true (by first | (with_reducible assumption) | assumption)
                                                                  have hx52 := bt_at a0 x14_6
                                                                  replace p52 := eq_true p52
                                                                  replace q52 := eq_true q52
                                                                  have p54 : 0 ≤ (x14_6 : Int) := of_decide_eq_true (by first | (with_reducible assumption) | assumption)
                                                                  have q54 : x14_6 < (a0.size : Int) := of_decide_eq_true (by first | (with_reducible assumption) | assumption)
                                                                  have hx54 := bt_at a0 x14_6
                                                                  replace p54 := eq_true p54
                                                                  replace q54 := eq_true q54
                                                                  try (obtain ⟨hw0, hw1⟩ := HR143_0.out)
                                                                  go_wp2
                                                                  go_ret
                                                                  exact ⟨by first | rfl | (simp [errW_none, errW_some] <;> rfl) | (simp [*, errW_none, errW_some] <;> rfl), by repeat (first | (with_reducible first | exact HB.out | apply below_alloc | apply pw_below_drewN | apply below_drew1) | exact HB.out)⟩
                                                      · rw [if_neg c46] at H
                                                        exact absurd H (by simp)
                                                    · rw [if_neg c45] at H
                                                      exact absurd H (by simp)
                                                  · rw [if_neg c44] at H
                                                    have c44b0 : decide (x14_6 < ((rd_T51 ((rd_T49 t136 x10_3).f0) x11_4).f1)) = false := decide_eq_false c44
                                                    clear c44
                                                    by_cases c56 : x9_6 = true
                                                    · subst c56
                                                      have H1 : (some false) = some r := by rw [if_pos rfl] at H; exact H
                                                      clear H
                                                      have H := H1
                                                      clear H1
                                                      obtain rfl := Option.some.inj H
                                                      try (obtain ⟨hw0, hw1⟩ := HR143_0.out)
                                                      go_wp2
                                                      go_ret
                                                      exact ⟨by first | rfl | (simp [errW_none, errW_some] <;> rfl) | (simp [*, errW_none, errW_some] <;> rfl), by repeat (first | (with_reducible first | exact HB.out | apply below_alloc | apply pw_below_drewN | apply below_drew1) | exact HB.out)⟩
                                                    · replace c56 := Bool.eq_false_iff.mpr c56
                                                      subst c56
                                                      have H1 : (if x11_4 > 0 then (if x13_6 > 0 then (some false) else (if x11_4 = 0 then (if x10_3 > 0 then (if x13_6 = 0 then (some false) else (plnlaw7_LexWhere.l2 k6 a0 t136 (wrap64 (((rd_T51 ((rd_T49 t136 x10_3).f0) x11_4).f1) + (((rd_T51 ((rd_T49 t136 x10_3).f0) x11_4).f0).size : Int))) false x10_3 (wrap64 (x11_4 + 1)))) else (plnlaw7_LexWhere.l2 k6 a0 t136 (wrap64 (((rd_T51 ((rd_T49 t136 x10_3).f0) x11_4).f1) + (((rd_T51 ((rd_T49 t136 x10_3).f0) x11_4).f0).size : Int))) false x10_3 (wrap64 (x11_4 + 1)))) else (plnlaw7_LexWhere.l2 k6 a0 t136 (wrap64 (((rd_T51 ((rd_T49 t136 x10_3).f0) x11_4).f1) + (((rd_T51 ((rd_T49 t136 x10_3).f0) x11_4).f0).size : Int))) false x10_3 (wrap64 (x11_4 + 1))))) else (if x11_4 = 0 then (if x10_3 > 0 then (if x13_6 = 0 then (some false) else (plnlaw7_LexWhere.l2 k6 a0 t136 (wrap64 (((rd_T51 ((rd_T49 t136 x10_3).f0) x11_4).f1) + (((rd_T51 ((rd_T49 t136 x10_3).f0) x11_4).f0).size : Int))) false x10_3 (wrap64 (x11_4 + 1)))) else (plnlaw7_LexWhere.l2 k6 a0 t136 (wrap64 (((rd_T51 ((rd_T49 t136 x10_3).f0) x11_4).f1) + (((rd_T51 ((rd_T49 t136 x10_3).f0) x11_4).f0).size : Int))) false x10_3 (wrap64 (x11_4 + 1)))) else (plnlaw7_LexWhere.l2 k6 a0 t136 (wrap64 (((rd_T51 ((rd_T49 t136 x10_3).f0) x11_4).f1) + (((rd_T51 ((rd_T49 t136 x10_3).f0) x11_4).f0).size : Int))) false x10_3 (wrap64 (x11_4 + 1))))) = some r := by rw [if_neg (show ¬ (false = true) by decide)] at H; exact H
                                                      clear H
                                                      have H := H1
                                                      clear H1
                                                      by_cases c57 : x11_4 > 0
                                                      · rw [if_pos c57] at H
                                                        have c57b0 : decide (0 < x11_4) = true := decide_eq_true c57
                                                        clear c57
                                                        by_cases c58 : x13_6 > 0
                                                        · rw [if_pos c58] at H
                                                          have c58b0 : decide (0 < x13_6) = true := decide_eq_true c58
                                                          clear c58
                                                          obtain rfl := Option.some.inj H
                                                          try (obtain ⟨hw0, hw1⟩ := HR143_0.out)
                                                          go_wp2
                                                          go_ret
                                                          exact ⟨by first | rfl | (simp [errW_none, errW_some] <;> rfl) | (simp [*, errW_none, errW_some] <;> rfl), by repeat (first | (with_reducible first | exact HB.out | apply below_alloc | apply pw_below_drewN | apply below_drew1) | exact HB.out)⟩
                                                        · rw [if_neg c58] at H
                                                          have c58b0 : decide (0 < x13_6) = false := decide_eq_false c58
                                                          clear c58
                                                          by_cases c59 : x11_4 = 0
                                                          · rw [if_pos c59] at H
                                                            have c59b0 : (x11_4 == 0) = true := beq_iff_eq.mpr c59
                                                            have c59b1 : (x11_4 != 0) = false := bne_eq_false_iff_eq.mpr c59
                                                            clear c59
                                                            by_cases c60 : x10_3 > 0
                                                            · rw [if_pos c60] at H
                                                              have c60b0 : decide (0 < x10_3) = true := decide_eq_true c60
                                                              clear c60
                                                              by_cases c61 : x13_6 = 0
                                                              · rw [if_pos c61] at H
                                                                have c61b0 : (x13_6 == 0) = true := beq_iff_eq.mpr c61
                                                                have c61b1 : (x13_6 != 0) = false := bne_eq_false_iff_eq.mpr c61
                                                                clear c61
                                                                obtain rfl := Option.some.inj H
                                                                try (obtain ⟨hw0, hw1⟩ := HR143_0.out)
                                                                go_wp2
                                                                go_ret
                                                                exact ⟨by first | rfl | (simp [errW_none, errW_some] <;> rfl) | (simp [*, errW_none, errW_some] <;> rfl), by repeat (first | (with_reducible first | exact HB.out | apply below_alloc | apply pw_below_drewN | apply below_drew1) | exact HB.out)⟩
                                                              · rw [if_neg c61] at H
                                                                have c61b0 : (x13_6 == 0) = false := beq_eq_false_iff_ne.mpr c61
                                                                have c61b1 : (x13_6 != 0) = true := bne_iff_ne.mpr c61
                                                                have H' := Aside0.mk H
                                                                clear H
                                                                try (obtain ⟨hw0, hw1⟩ := HR143_0.out)
                                                                go_wp2
                                                                go_roundg k6
                                                                case measure => have := HK1.out; have := HJ23.out; have := HK3.out; have := HK4.out; have := HJ35.out; have := HK6.out; omega
                                                                case rel => exact ⟨(wrap64 (((rd_T51 ((rd_T49 t136 x10_3).f0) x11_4).f1) + (((rd_T51 ((rd_T49 t136 x10_3).f0) x11_4).f0).size : Int))), (false), (wrap64 (x11_4 + 1)), (by first | rfl | (simp; done) | (simp [*]; done)), (by first | rfl | (simp; done) | (simp [*]; done)), (by first | rfl | (simp; done) | (simp [*]; done)), H', ⟨by have := HK1.out; have := HJ23.out; have := HK3.out; have := HK4.out; have := HJ35.out; have := HK6.out; omega⟩, ⟨by (with_reducible repeat (first | apply Kd.S_alloc | apply Kd.S_drewN | apply Kd.S_drew)); exact HO_3.out⟩, ⟨by repeat (first | (with_reducible exact HR141_0.out) | (with_reducible refine Kd.C_alloc ?_ _) | (with_reducible refine Kd.C_drewN ?_ _) | (with_reducible refine Kd.C_drew ?_) | exact HR141_0.out)⟩, ⟨by repeat (first | (with_reducible first | exact HB.out | apply below_alloc | apply pw_below_drewN | apply below_drew1) | exact HB.out)⟩⟩
                                                            · rw [if_neg c60] at H
                                                              have c60b0 : decide (0 < x10_3) = false := decide_eq_false c60
                                                              clear c60
                                                              have H' := Aside0.mk H
                                                              clear H
                                                              try (obtain ⟨hw0, hw1⟩ := HR143_0.out)
                                                              go_wp2
                                                              go_roundg k6
                                                              case measure => have := HK1.out; have := HJ23.out; have := HK3.out; have := HK4.out; have := HJ35.out; have := HK6.out; omega
                                                              case rel => exact ⟨(wrap64 (((rd_T51 ((rd_T49 t136 x10_3).f0) x11_4).f1) + (((rd_T51 ((rd_T49 t136 x10_3).f0) x11_4).f0).size : Int))), (false), (wrap64 (x11_4 + 1)), (by first | rfl | (simp; done) | (simp [*]; done)), (by first | rfl | (simp; done) | (simp [*]; done)), (by first | rfl | (simp; done) | (simp [*]; done)), H', ⟨by have := HK1.out; have := HJ23.out; have := HK3.out; have := HK4.out; have := HJ35.out; have := HK6.out; omega⟩, ⟨by (with_reducible repeat (first | apply Kd.S_alloc | apply Kd.S_drewN | apply Kd.S_drew)); exact HO_3.out⟩, ⟨by repeat (first | (with_reducible exact HR141_0.out) | (with_reducible refine Kd.C_alloc ?_ _) | (with_reducible refine Kd.C_drewN ?_ _) | (with_reducible refine Kd.C_drew ?_) | exact HR141_0.out)⟩, ⟨by repeat (first | (with_reducible first | exact HB.out | apply below_alloc | apply pw_below_drewN | apply below_drew1) | exact HB.out)⟩⟩
                                                          · rw [if_neg c59] at H
                                                            have c59b0 : (x11_4 == 0) = false := beq_eq_false_iff_ne.mpr c59
                                                            have c59b1 : (x11_4 != 0) = true := bne_iff_ne.mpr c59
                                                            have H' := Aside0.mk H
                                                            clear H
                                                            try (obtain ⟨hw0, hw1⟩ := HR143_0.out)
                                                            go_wp2
                                                            go_roundg k6
                                                            case measure => have := HK1.out; have := HJ23.out; have := HK3.out; have := HK4.out; have := HJ35.out; have := HK6.out; omega
                                                            case rel => exact ⟨(wrap64 (((rd_T51 ((rd_T49 t136 x10_3).f0) x11_4).f1) + (((rd_T51 ((rd_T49 t136 x10_3).f0) x11_4).f0).size : Int))), (false), (wrap64 (x11_4 + 1)), (by first | rfl | (simp; done) | (simp [*]; done)), (by first | rfl | (simp; done) | (simp [*]; done)), (by first | rfl | (simp; done) | (simp [*]; done)), H', ⟨by have := HK1.out; have := HJ23.out; have := HK3.out; have := HK4.out; have := HJ35.out; have := HK6.out; omega⟩, ⟨by (with_reducible repeat (first | apply Kd.S_alloc | apply Kd.S_drewN | apply Kd.S_drew)); exact HO_3.out⟩, ⟨by repeat (first | (with_reducible exact HR141_0.out) | (with_reducible refine Kd.C_alloc ?_ _) | (with_reducible refine Kd.C_drewN ?_ _) | (with_reducible refine Kd.C_drew ?_) | exact HR141_0.out)⟩, ⟨by repeat (first | (with_reducible first | exact HB.out | apply below_alloc | apply pw_below_drewN | apply below_drew1) | exact HB.out)⟩⟩
                                                      · rw [if_neg c57] at H
                                                        have c57b0 : decide (0 < x11_4) = false := decide_eq_false c57
                                                        clear c57
                                                        by_cases c62 : x11_4 = 0
                                                        · rw [if_pos c62] at H
                                                          have c62b0 : (x11_4 == 0) = true := beq_iff_eq.mpr c62
                                                          have c62b1 : (x11_4 != 0) = false := bne_eq_false_iff_eq.mpr c62
                                                          clear c62
                                                          by_cases c63 : x10_3 > 0
                                                          · rw [if_pos c63] at H
                                                            have c63b0 : decide (0 < x10_3) = true := decide_eq_true c63
                                                            clear c63
                                                            by_cases c64 : x13_6 = 0
                                                            · rw [if_pos c64] at H
                                                              have c64b0 : (x13_6 == 0) = true := beq_iff_eq.mpr c64
                                                              have c64b1 : (x13_6 != 0) = false := bne_eq_false_iff_eq.mpr c64
                                                              clear c64
                                                              obtain rfl := Option.some.inj H
                                                              try (obtain ⟨hw0, hw1⟩ := HR143_0.out)
                                                              go_wp2
                                                              go_ret
                                                              exact ⟨by first | rfl | (simp [errW_none, errW_some] <;> rfl) | (simp [*, errW_none, errW_some] <;> rfl), by repeat (first | (with_reducible first | exact HB.out | apply below_alloc | apply pw_below_drewN | apply below_drew1) | exact HB.out)⟩
                                                            · rw [if_neg c64] at H
                                                              have c64b0 : (x13_6 == 0) = false := beq_eq_false_iff_ne.mpr c64
                                                              have c64b1 : (x13_6 != 0) = true := bne_iff_ne.mpr c64
                                                              have H' := Aside0.mk H
                                                              clear H
                                                              try (obtain ⟨hw0, hw1⟩ := HR143_0.out)
                                                              go_wp2
                                                              go_roundg k6
                                                              case measure => have := HK1.out; have := HJ23.out; have := HK3.out; have := HK4.out; have := HJ35.out; have := HK6.out; omega
                                                              case rel => exact ⟨(wrap64 (((rd_T51 ((rd_T49 t136 x10_3).f0) x11_4).f1) + (((rd_T51 ((rd_T49 t136 x10_3).f0) x11_4).f0).size : Int))), (false), (wrap64 (x11_4 + 1)), (by first | rfl | (simp; done) | (simp [*]; done)), (by first | rfl | (simp; done) | (simp [*]; done)), (by first | rfl | (simp; done) | (simp [*]; done)), H', ⟨by have := HK1.out; have := HJ23.out; have := HK3.out; have := HK4.out; have := HJ35.out; have := HK6.out; omega⟩, ⟨by (with_reducible repeat (first | apply Kd.S_alloc | apply Kd.S_drewN | apply Kd.S_drew)); exact HO_3.out⟩, ⟨by repeat (first | (with_reducible exact HR141_0.out) | (with_reducible refine Kd.C_alloc ?_ _) | (with_reducible refine Kd.C_drewN ?_ _) | (with_reducible refine Kd.C_drew ?_) | exact HR141_0.out)⟩, ⟨by repeat (first | (with_reducible first | exact HB.out | apply below_alloc | apply pw_below_drewN | apply below_drew1) | exact HB.out)⟩⟩
                                                          · rw [if_neg c63] at H
                                                            have c63b0 : decide (0 < x10_3) = false := decide_eq_false c63
                                                            clear c63
                                                            have H' := Aside0.mk H
                                                            clear H
                                                            try (obtain ⟨hw0, hw1⟩ := HR143_0.out)
                                                            go_wp2
                                                            go_roundg k6
                                                            case measure => have := HK1.out; have := HJ23.out; have := HK3.out; have := HK4.out; have := HJ35.out; have := HK6.out; omega
                                                            case rel => exact ⟨(wrap64 (((rd_T51 ((rd_T49 t136 x10_3).f0) x11_4).f1) + (((rd_T51 ((rd_T49 t136 x10_3).f0) x11_4).f0).size : Int))), (false), (wrap64 (x11_4 + 1)), (by first | rfl | (simp; done) | (simp [*]; done)), (by first | rfl | (simp; done) | (simp [*]; done)), (by first | rfl | (simp; done) | (simp [*]; done)), H', ⟨by have := HK1.out; have := HJ23.out; have := HK3.out; have := HK4.out; have := HJ35.out; have := HK6.out; omega⟩, ⟨by (with_reducible repeat (first | apply Kd.S_alloc | apply Kd.S_drewN | apply Kd.S_drew)); exact HO_3.out⟩, ⟨by repeat (first | (with_reducible exact HR141_0.out) | (with_reducible refine Kd.C_alloc ?_ _) | (with_reducible refine Kd.C_drewN ?_ _) | (with_reducible refine Kd.C_drew ?_) | exact HR141_0.out)⟩, ⟨by repeat (first | (with_reducible first | exact HB.out | apply below_alloc | apply pw_below_drewN | apply below_drew1) | exact HB.out)⟩⟩
                                                        · rw [if_neg c62] at H
                                                          have c62b0 : (x11_4 == 0) = false := beq_eq_false_iff_ne.mpr c62
                                                          have c62b1 : (x11_4 != 0) = true := bne_iff_ne.mpr c62
                                                          have H' := Aside0.mk H
                                                          clear H
                                                          try (obtain ⟨hw0, hw1⟩ := HR143_0.out)
                                                          go_wp2
                                                          go_roundg k6
                                                          case measure => have := HK1.out; have := HJ23.out; have := HK3.out; have := HK4.out; have := HJ35.out; have := HK6.out; omega
                                                          case rel => exact ⟨(wrap64 (((rd_T51 ((rd_T49 t136 x10_3).f0) x11_4).f1) + (((rd_T51 ((rd_T49 t136 x10_3).f0) x11_4).f0).size : Int))), (false), (wrap64 (x11_4 + 1)), (by first | rfl | (simp; done) | (simp [*]; done)), (by first | rfl | (simp; done) | (simp [*]; done)), (by first | rfl | (simp; done) | (simp [*]; done)), H', ⟨by have := HK1.out; have := HJ23.out; have := HK3.out; have := HK4.out; have := HJ35.out; have := HK6.out; omega⟩, ⟨by (with_reducible repeat (first | apply Kd.S_alloc | apply Kd.S_drewN | apply Kd.S_drew)); exact HO_3.out⟩, ⟨by repeat (first | (with_reducible exact HR141_0.out) | (with_reducible refine Kd.C_alloc ?_ _) | (with_reducible refine Kd.C_drewN ?_ _) | (with_reducible refine Kd.C_drew ?_) | exact HR141_0.out)⟩, ⟨by repeat (first | (with_reducible first | exact HB.out | apply below_alloc | apply pw_below_drewN | apply below_drew1) | exact HB.out)⟩⟩
                                      · rw [if_neg c35] at H
                                        exact absurd H (by simp)
                                    · rw [if_neg c34] at H
                                      have c34b0 : decide (x11_4 < (((rd_T49 t136 x10_3).f0).length : Int)) = false := decide_eq_false c34
                                      clear c34
                                      have H' := Aside0.mk H
                                      clear H
                                      have p142 : 0 ≤ (x10_3 : Int) := of_decide_eq_true (by first | (with_reducible assumption) | assumption)
                                      have q142 : x10_3 < (t136.length : Int) := of_decide_eq_true (by first | (with_reducible assumption) | assumption)
                                      obtain ⟨ad142, A142_0, c142_0, e142, hx142_0, hl142_0, hi142_0⟩ := at_T49 (Kd.S_reads' HO_3.out).2.2 x10_3 p142 q142
                                      obtain rfl : ad141 = ad142 := (by injection e142)
                                      obtain ⟨ce142, hce142, hMe142, hcc142⟩ := Kd.S_get HO_3.out z49 x10_3 p142 (by first | exact q142 | exact of_decide_eq_true (by first | (with_reducible assumption) | assumption) | (have e_ := (Kd.S_reads' HO_3.out).1; omega))
                                      obtain ⟨ve142_0, rfl, ge142_0⟩ := k49_openM hMe142
                                      have hv142_0 := hcc142 0 _ rfl
                                      rw [Nat.add_zero, show (k49).sz = 1 from rfl, Nat.mul_one] at hv142_0
                                      replace hv142_0 := Option.some.inj (hv142_0.symm.trans hx142_0)
                                      rw [hv142_0] at ge142_0
                                      have HL142_0 := Aside0.mk (show Kd.R k51 51 _ _ _ _ ((rd_T49 t136 x10_3).f0) from ge142_0)
                                      clear hv142_0 ge142_0
                                      clear hcc142 hce142
                                      have HR142_0 := Aside0.mk hi142_0
                                      have HC142_0 := Aside0.mk hl142_0
                                      clear hi142_0 hl142_0
                                      replace p142 := eq_true p142
                                      replace q142 := eq_true q142
                                      try (obtain ⟨hw0, hw1⟩ := HR143_0.out)
                                      go_wp2
                                      go_roundg k4
                                      case measure => have := HK1.out; have := HJ23.out; have := HK3.out; have := HK4.out; omega
                                      case rel => exact ⟨(x8_4), (x9_4), (wrap64 (x10_3 + 1)), (by first | rfl | (simp; done) | (simp [*]; done)), (by first | rfl | (simp; done) | (simp [*]; done)), (by first | rfl | (simp; done) | (simp [*]; done)), H', ⟨by have := HK1.out; have := HJ23.out; have := HK3.out; have := HK4.out; omega⟩, ⟨by (with_reducible repeat (first | apply Kd.S_alloc | apply Kd.S_drewN | apply Kd.S_drew)); exact HO_3.out⟩, ⟨by repeat (first | (with_reducible first | exact HB.out | apply below_alloc | apply pw_below_drewN | apply below_drew1) | exact HB.out)⟩⟩
                                  · rw [if_neg c33] at H
                                    exact absurd H (by simp)
                                · rw [if_neg c32] at H
                                  exact absurd H (by simp)
                        · rw [if_neg c28] at H
                          exact absurd H (by simp)
                      · rw [if_neg c27] at H
                        have c27b0 : decide (x10_3 < (t136.length : Int)) = false := decide_eq_false c27
                        clear c27
                        have H' := Aside0.mk H
                        clear H
                        obtain ⟨Ao65, co65, eo65⟩ := Kd.S_slice HO_3.out
                        subst eo65
                        try (obtain ⟨hw0, hw1⟩ := HR143_0.out)
                        go_wp2
                        go_loopg [9, 15] k3 (fun kq v9 v15 w' => ∃ (x9_4 : Bool) (x15_4 : Int), v9 = .bool x9_4 ∧ v15 = .int .i64 x15_4 ∧ Aside0 (plnlaw7_LexWhere.l4 kq a0 x9_4 x15_4 = some r) ∧ Aside0 (kq ≤ k3) ∧ Aside0 (Below w.heap.size w w'))
                        case atStart => exact ⟨(x9_3), (x8_3), (by first | rfl | (simp; done) | (simp [*]; done)), (by first | rfl | (simp; done) | (simp [*]; done)), H', ⟨Nat.le_refl _⟩, ⟨by repeat (first | (with_reducible first | exact HB.out | apply below_alloc | apply pw_below_drewN | apply below_drew1) | exact HB.out)⟩⟩
                        case round => as_aux_lemma =>
                          clear H'
                          try clear c1
                          try clear p1
                          try clear q1
                          try clear hx1
                          try clear c2
                          try clear p2
                          try clear c3
                          try clear c4
                          try clear c4b0
                          try clear c4b1
                          try clear p4
                          try clear q4
                          try clear hx4
                          try clear c5
                          try clear p5
                          try clear q5
                          try clear hx5
                          try clear c6
                          try clear p6
                          try clear c11
                          try clear c11b0
                          try clear c12
                          try clear c12b0
                          try clear p13
                          try clear q13
                          try clear hx13
                          try clear c14
                          try clear c14b0
                          try clear c14b1
                          try clear p14
                          try clear q14
                          try clear hx14
                          try clear c15
                          try clear c15b0
                          try clear c15b1
                          try clear c16
                          try clear c16b0
                          try clear c17
                          try clear c17b0
                          try clear c17b1
                          try clear c18
                          try clear c18b0
                          try clear c18b1
                          try clear c20
                          try clear c20b0
                          try clear c21
                          try clear c21b0
                          try clear c21b1
                          try clear c22
                          try clear c22b0
                          try clear c22b1
                          try clear c25
                          try clear c25b0
                          try clear c25b1
                          try clear c26
                          try clear c27
                          try clear c27b0
                          try clear c28
                          try clear c28b0
                          try clear c29
                          try clear c29b0
                          try clear c29b1
                          try clear c29b2
                          try clear c30
                          try clear c32
                          try clear c32b0
                          try clear c33
                          try clear c33b0
                          try clear c34
                          try clear c34b0
                          try clear c35
                          try clear c35b0
                          try clear c37
                          try clear c37b0
                          try clear c37b1
                          try clear c38
                          try clear c38b0
                          try clear c39
                          try clear c39b0
                          try clear c40
                          try clear c40b0
                          try clear c40b1
                          try clear c41
                          try clear c41b0
                          try clear c41b1
                          try clear c42
                          try clear c42b0
                          try clear c42b1
                          try clear c43
                          try clear c44
                          try clear c44b0
                          try clear c45
                          try clear c45b0
                          try clear c46
                          try clear c46b0
                          try clear p47
                          try clear q47
                          try clear hx47
                          try clear c48
                          try clear c48b0
                          try clear c48b1
                          try clear p49
                          try clear q49
                          try clear hx49
                          try clear c50
                          try clear c50b0
                          try clear c50b1
                          try clear c51
                          try clear p52
                          try clear q52
                          try clear hx52
                          try clear c53
                          try clear c53b0
                          try clear c53b1
                          try clear p54
                          try clear q54
                          try clear hx54
                          try clear c55
                          try clear c55b0
                          try clear c55b1
                          try clear c56
                          try clear c57
                          try clear c57b0
                          try clear c58
                          try clear c58b0
                          try clear c59
                          try clear c59b0
                          try clear c59b1
                          try clear c60
                          try clear c60b0
                          try clear c61
                          try clear c61b0
                          try clear c61b1
                          try clear c62
                          try clear c62b0
                          try clear c62b1
                          try clear c63
                          try clear c63b0
                          try clear c64
                          try clear c64b0
                          try clear c64b1
                          try clear p64
                          try clear hx141_0
                          try clear hx142_0
                          try clear hx143_0
                          try clear hx144_0
                          try clear hx144_1
                          try clear p1
                          try clear p13
                          try clear p14
                          try clear p141
                          try clear p142
                          try clear p143
                          try clear p144
                          try clear p2
                          try clear p47
                          try clear p49
                          try clear p52
                          try clear p54
                          try clear p6
                          try clear q1
                          try clear q13
                          try clear q14
                          try clear q141
                          try clear q142
                          try clear q143
                          try clear q144
                          try clear q47
                          try clear q49
                          try clear q52
                          try clear q54
                          obtain ⟨x9_4, x15_4, rfl, rfl, HA, HK4, HB⟩ := hrel
                          cases gk with
                          | zero => exact absurd HA.out (by simp [plnlaw7_LexWhere.l4])
                          | succ k4 =>
                            have H := HA.out
                            clear HA
                            simp only [plnlaw7_LexWhere.l4] at H
                            by_cases c66 : x15_4 < (a0.size : Int)
                            · rw [if_pos c66] at H
                              have c66b0 : decide (x15_4 < (a0.size : Int)) = true := decide_eq_true c66
                              clear c66
                              by_cases c67 : 0 ≤ x15_4
                              · rw [if_pos c67] at H
                                have c67b0 : decide (0 ≤ x15_4) = true := decide_eq_true c67
                                clear c67
                                by_cases c69 : (bt a0 x15_4) = 10
                                · rw [if_pos c69] at H
                                  have c69b0 : ((bt a0 x15_4) == 10) = true := beq_iff_eq.mpr c69
                                  have c69b1 : ((bt a0 x15_4) != 10) = false := bne_eq_false_iff_eq.mpr c69
                                  clear c69
                                  have H' := Aside0.mk H
                                  clear H
                                  have p68 : 0 ≤ (x15_4 : Int) := of_decide_eq_true (by first | (with_reducible assumption) | assumption)
                                  have q68 : x15_4 < (a0.size : Int) := of_decide_eq_true (by first | (with_reducible assumption) | assumption)
                                  have hx68 := bt_at a0 x15_4
                                  replace p68 := eq_true p68
                                  replace q68 := eq_true q68
                                  go_wp2
                                  go_roundg k4
                                  case measure => have := HK1.out; have := HJ23.out; have := HK3.out; have := HK4.out; omega
                                  case rel => exact ⟨(false), (wrap64 (x15_4 + 1)), (by first | rfl | (simp; done) | (simp [*]; done)), (by first | rfl | (simp; done) | (simp [*]; done)), H', ⟨by have := HK1.out; have := HJ23.out; have := HK3.out; have := HK4.out; omega⟩, ⟨by repeat (first | (with_reducible first | exact HB.out | apply below_alloc | apply pw_below_drewN | apply below_drew1) | exact HB.out)⟩⟩
                                · rw [if_neg c69] at H
                                  have c69b0 : ((bt a0 x15_4) == 10) = false := beq_eq_false_iff_ne.mpr c69
                                  have c69b1 : ((bt a0 x15_4) != 10) = true := bne_iff_ne.mpr c69
                                  by_cases c71 : (bt a0 x15_4) = 35
                                  · rw [if_pos c71] at H
                                    have c71b0 : ((bt a0 x15_4) == 35) = true := beq_iff_eq.mpr c71
                                    have c71b1 : ((bt a0 x15_4) != 35) = false := bne_eq_false_iff_eq.mpr c71
                                    clear c71
                                    have H' := Aside0.mk H
                                    clear H
                                    have p68 : 0 ≤ (x15_4 : Int) := of_decide_eq_true (by first | (with_reducible assumption) | assumption)
                                    have q68 : x15_4 < (a0.size : Int) := of_decide_eq_true (by first | (with_reducible assumption) | assumption)
                                    have hx68 := bt_at a0 x15_4
                                    replace p68 := eq_true p68
                                    replace q68 := eq_true q68
                                    have p70 : 0 ≤ (x15_4 : Int) := of_decide_eq_true (by first | (with_reducible assumption) | assumption)
                                    have q70 : x15_4 < (a0.size : Int) := of_decide_eq_true (by first | (with_reducible assumption) | assumption)
                                    have hx70 := bt_at a0 x15_4
                                    replace p70 := eq_true p70
                                    replace q70 := eq_true q70
                                    go_wp2
                                    go_roundg k4
                                    case measure => have := HK1.out; have := HJ23.out; have := HK3.out; have := HK4.out; omega
                                    case rel => exact ⟨(true), (wrap64 (x15_4 + 1)), (by first | rfl | (simp; done) | (simp [*]; done)), (by first | rfl | (simp; done) | (simp [*]; done)), H', ⟨by have := HK1.out; have := HJ23.out; have := HK3.out; have := HK4.out; omega⟩, ⟨by repeat (first | (with_reducible first | exact HB.out | apply below_alloc | apply pw_below_drewN | apply below_drew1) | exact HB.out)⟩⟩
                                  · rw [if_neg c71] at H
                                    have c71b0 : ((bt a0 x15_4) == 35) = false := beq_eq_false_iff_ne.mpr c71
                                    have c71b1 : ((bt a0 x15_4) != 35) = true := bne_iff_ne.mpr c71
                                    by_cases c72 : x9_4 = true
                                    · subst c72
                                      have H1 : (plnlaw7_LexWhere.l4 k4 a0 true (wrap64 (x15_4 + 1))) = some r := by rw [if_pos rfl] at H; exact H
                                      clear H
                                      have H := H1
                                      clear H1
                                      have H' := Aside0.mk H
                                      clear H
                                      have p68 : 0 ≤ (x15_4 : Int) := of_decide_eq_true (by first | (with_reducible assumption) | assumption)
                                      have q68 : x15_4 < (a0.size : Int) := of_decide_eq_true (by first | (with_reducible assumption) | assumption)
                                      have hx68 := bt_at a0 x15_4
                                      replace p68 := eq_true p68
                                      replace q68 := eq_true q68
                                      have p70 : 0 ≤ (x15_4 : Int) := of_decide_eq_true (by first | (with_reducible assumption) | assumption)
                                      have q70 : x15_4 < (a0.size : Int) := of_decide_eq_true (by first | (with_reducible assumption) | assumption)
                                      have hx70 := bt_at a0 x15_4
                                      replace p70 := eq_true p70
                                      replace q70 := eq_true q70
                                      go_wp2
                                      go_roundg k4
                                      case measure => have := HK1.out; have := HJ23.out; have := HK3.out; have := HK4.out; omega
                                      case rel => exact ⟨(true), (wrap64 (x15_4 + 1)), (by first | rfl | (simp; done) | (simp [*]; done)), (by first | rfl | (simp; done) | (simp [*]; done)), H', ⟨by have := HK1.out; have := HJ23.out; have := HK3.out; have := HK4.out; omega⟩, ⟨by repeat (first | (with_reducible first | exact HB.out | apply below_alloc | apply pw_below_drewN | apply below_drew1) | exact HB.out)⟩⟩
                                    · replace c72 := Bool.eq_false_iff.mpr c72
                                      subst c72
                                      have H1 : (if (bt a0 x15_4) = 9 then (plnlaw7_LexWhere.l4 k4 a0 false (wrap64 (x15_4 + 1))) else (if (bt a0 x15_4) = 32 then (plnlaw7_LexWhere.l4 k4 a0 false (wrap64 (x15_4 + 1))) else (some false))) = some r := by rw [if_neg (show ¬ (false = true) by decide)] at H; exact H
                                      clear H
                                      have H := H1
                                      clear H1
                                      by_cases c74 : (bt a0 x15_4) = 9
                                      · rw [if_pos c74] at H
                                        have c74b0 : ((bt a0 x15_4) == 9) = true := beq_iff_eq.mpr c74
                                        have c74b1 : ((bt a0 x15_4) != 9) = false := bne_eq_false_iff_eq.mpr c74
                                        clear c74
                                        have H' := Aside0.mk H
                                        clear H
                                        have p68 : 0 ≤ (x15_4 : Int) := of_decide_eq_true (by first | (with_reducible assumption) | assumption)
                                        have q68 : x15_4 < (a0.size : Int) := of_decide_eq_true (by first | (with_reducible assumption) | assumption)
                                        have hx68 := bt_at a0 x15_4
                                        replace p68 := eq_true p68
                                        replace q68 := eq_true q68
                                        have p70 : 0 ≤ (x15_4 : Int) := of_decide_eq_true (by first | (with_reducible assumption) | assumption)
                                        have q70 : x15_4 < (a0.size : Int) := of_decide_eq_true (by first | (with_reducible assumption) | assumption)
                                        have hx70 := bt_at a0 x15_4
                                        replace p70 := eq_true p70
                                        replace q70 := eq_true q70
                                        have p73 : 0 ≤ (x15_4 : Int) := of_decide_eq_true (by first | (with_reducible assumption) | assumption)
                                        have q73 : x15_4 < (a0.size : Int) := of_decide_eq_true (by first | (with_reducible assumption) | assumption)
                                        have hx73 := bt_at a0 x15_4
                                        replace p73 := eq_true p73
                                        replace q73 := eq_true q73
                                        go_wp2
                                        go_roundg k4
                                        case measure => have := HK1.out; have := HJ23.out; have := HK3.out; have := HK4.out; omega
                                        case rel => exact ⟨(false), (wrap64 (x15_4 + 1)), (by first | rfl | (simp; done) | (simp [*]; done)), (by first | rfl | (simp; done) | (simp [*]; done)), H', ⟨by have := HK1.out; have := HJ23.out; have := HK3.out; have := HK4.out; omega⟩, ⟨by repeat (first | (with_reducible first | exact HB.out | apply below_alloc | apply pw_below_drewN | apply below_drew1) | exact HB.out)⟩⟩
                                      · rw [if_neg c74] at H
                                        have c74b0 : ((bt a0 x15_4) == 9) = false := beq_eq_false_iff_ne.mpr c74
                                        have c74b1 : ((bt a0 x15_4) != 9) = true := bne_iff_ne.mpr c74
                                        by_cases c76 : (bt a0 x15_4) = 32
                                        · rw [if_pos c76] at H
                                          have c76b0 : ((bt a0 x15_4) == 32) = true := beq_iff_eq.mpr c76
                                          have c76b1 : ((bt a0 x15_4) != 32) = false := bne_eq_false_iff_eq.mpr c76
                                          clear c76
                                          have H' := Aside0.mk H
                                          clear H
                                          have p68 : 0 ≤ (x15_4 : Int) := of_decide_eq_true (by first | (with_reducible assumption) | assumption)
                                          have q68 : x15_4 < (a0.size : Int) := of_decide_eq_true (by first | (with_reducible assumption) | assumption)
                                          have hx68 := bt_at a0 x15_4
                                          replace p68 := eq_true p68
                                          replace q68 := eq_true q68
                                          have p70 : 0 ≤ (x15_4 : Int) := of_decide_eq_true (by first | (with_reducible assumption) | assumption)
                                          have q70 : x15_4 < (a0.size : Int) := of_decide_eq_true (by first | (with_reducible assumption) | assumption)
                                          have hx70 := bt_at a0 x15_4
                                          replace p70 := eq_true p70
                                          replace q70 := eq_true q70
                                          have p73 : 0 ≤ (x15_4 : Int) := of_decide_eq_true (by first | (with_reducible assumption) | assumption)
                                          have q73 : x15_4 < (a0.size : Int) := of_decide_eq_true (by first | (with_reducible assumption) | assumption)
                                          have hx73 := bt_at a0 x15_4
                                          replace p73 := eq_true p73
                                          replace q73 := eq_true q73
                                          have p75 : 0 ≤ (x15_4 : Int) := of_decide_eq_true (by first | (with_reducible assumption) | assumption)
                                          have q75 : x15_4 < (a0.size : Int) := of_decide_eq_true (by first | (with_reducible assumption) | assumption)
                                          have hx75 := bt_at a0 x15_4
                                          replace p75 := eq_true p75
                                          replace q75 := eq_true q75
                                          go_wp2
                                          go_roundg k4
                                          case measure => have := HK1.out; have := HJ23.out; have := HK3.out; have := HK4.out; omega
                                          case rel => exact ⟨(false), (wrap64 (x15_4 + 1)), (by first | rfl | (simp; done) | (simp [*]; done)), (by first | rfl | (simp; done) | (simp [*]; done)), H', ⟨by have := HK1.out; have := HJ23.out; have := HK3.out; have := HK4.out; omega⟩, ⟨by repeat (first | (with_reducible first | exact HB.out | apply below_alloc | apply pw_below_drewN | apply below_drew1) | exact HB.out)⟩⟩
                                        · rw [if_neg c76] at H
                                          have c76b0 : ((bt a0 x15_4) == 32) = false := beq_eq_false_iff_ne.mpr c76
                                          have c76b1 : ((bt a0 x15_4) != 32) = true := bne_iff_ne.mpr c76
                                          obtain rfl := Option.some.inj H
                                          have p68 : 0 ≤ (x15_4 : Int) := of_decide_eq_true (by first | (with_reducible assumption) | assumption)
                                          have q68 : x15_4 < (a0.size : Int) := of_decide_eq_true (by first | (with_reducible assumption) | assumption)
                                          have hx68 := bt_at a0 x15_4
                                          replace p68 := eq_true p68
                                          replace q68 := eq_true q68
                                          have p70 : 0 ≤ (x15_4 : Int) := of_decide_eq_true (by first | (with_reducible assumption) | assumption)
                                          have q70 : x15_4 < (a0.size : Int) := of_decide_eq_true (by first | (with_reducible assumption) | assumption)
                                          have hx70 := bt_at a0 x15_4
                                          replace p70 := eq_true p70
                                          replace q70 := eq_true q70
                                          have p73 : 0 ≤ (x15_4 : Int) := of_decide_eq_true (by first | (with_reducible assumption) | assumption)
                                          have q73 : x15_4 < (a0.size : Int) := of_decide_eq_true (by first | (with_reducible assumption) | assumption)
                                          have hx73 := bt_at a0 x15_4
                                          replace p73 := eq_true p73
                                          replace q73 := eq_true q73
                                          have p75 : 0 ≤ (x15_4 : Int) := of_decide_eq_true (by first | (with_reducible assumption) | assumption)
                                          have q75 : x15_4 < (a0.size : Int) := of_decide_eq_true (by first | (with_reducible assumption) | assumption)
                                          have hx75 := bt_at a0 x15_4
                                          replace p75 := eq_true p75
                                          replace q75 := eq_true q75
                                          go_wp2
                                          go_ret
                                          exact ⟨by first | rfl | (simp [errW_none, errW_some] <;> rfl) | (simp [*, errW_none, errW_some] <;> rfl), by repeat (first | (with_reducible first | exact HB.out | apply below_alloc | apply pw_below_drewN | apply below_drew1) | exact HB.out)⟩
                              · rw [if_neg c67] at H
                                exact absurd H (by simp)
                            · rw [if_neg c66] at H
                              have c66b0 : decide (x15_4 < (a0.size : Int)) = false := decide_eq_false c66
                              clear c66
                              obtain rfl := Option.some.inj H
                              go_wp2
                              go_ret
                              exact ⟨by first | rfl | (simp [errW_none, errW_some] <;> rfl) | (simp [*, errW_none, errW_some] <;> rfl), by repeat (first | (with_reducible first | exact HB.out | apply below_alloc | apply pw_below_drewN | apply below_drew1) | exact HB.out)⟩
  · replace c3 := Bool.eq_false_iff.mpr c3
    subst c3
    have H1 : (some false) = some r := by rw [if_neg (show ¬ (false = true) by decide)] at H; exact H
    clear H
    have H := H1
    clear H1
    obtain rfl := Option.some.inj H
    go_enter Try.func6, Try.ntmps6
    go_wp2_with (first | ((with_reducible refine gate_callee (f := 29) rfl ?_); refine goesL_ (some 16) rfl rfl Try.func29 (by kernel_rfl) rfl #[] rfl (by (try simp only [List.map_toArray, List.map_cons, List.map_nil]); first | done | rfl | (simp only [List.length_drop, List.length_take]; rfl)) ?_; (with_reducible refine (plnlaw7_first.calls k  false _ A2.out).mono ?_); rintro e w77 ⟨rfl, hb⟩; refine ⟨_, rfl, ?_⟩; have n0_ := Aside0.mk (below_step (by repeat (first | (with_reducible first | exact HB.out | apply below_alloc | apply pw_below_drewN | apply below_drew1) | exact HB.out)) hb); clear HB; have HB := n0_; clear n0_; (try clear hb); (try clear hb2); (try clear hk); (try clear hi)))
    go_ret
    exact ⟨by first | rfl | (simp [errW_none, errW_some] <;> rfl) | (simp [*, errW_none, errW_some] <;> rfl), by repeat (first | (with_reducible first | exact HB.out | apply below_alloc | apply pw_below_drewN | apply below_drew1) | exact HB.out)⟩

/-- THE ONE PURE STATEMENT of plnlaw7_LexWhere: yours. -/
def plnlaw7_LexWhere.Pure : Prop := ∀ (a0 : ByteArray), a0.size ≤ 140737488351232 → ∃ k, plnlaw7_LexWhere.f k a0 = some true
theorem plnlaw7_LexWhere.walk (P : plnlaw7_LexWhere.Pure) (a0 : ByteArray) (w : World) (w0 : a0.size ≤ 140737488351232) :
    Calls Try.prog 6 #[.string a0] w fun e w' => e = .returned (.bool true) ∧ Below w.heap.size w w' := by
  obtain ⟨k, h⟩ := P a0 w0
  refine (plnlaw7_LexWhere.calls k a0 true w h).mono ?_
  rintro e w' ⟨rfl, hd⟩
  exact ⟨rfl, hd⟩

end Go.Proofs.Ytnibdgjlbhdmfaa.QLexWhere
