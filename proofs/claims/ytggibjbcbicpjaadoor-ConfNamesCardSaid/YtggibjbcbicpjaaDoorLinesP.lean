-- Laid by a program of this session out of Lean's print of the program.
import Derived.Test.YtggibjbcbicpjaaDoorQLexWherex0
namespace Go.Proofs.YtggibjbcbicpjaaDoor.QLexWhere
open Go.RowKit Go.Proofs.YtggibjbcbicpjaaDoorW.PrintWords Go.Proofs.YtggibjbcbicpjaaDoorW.PrintLast Go.Proofs.YtggibjbcbicpjaaDoorW.PrintMore
attribute [local go_sem] max2_int min2_int max_two min_two max_three min_three max_four min_four   -- for this text's walks alone
set_option linter.unusedVariables false
set_option linter.unusedSimpArgs false

/-! ### lex_Lines: function 10 -/
mutual
def lex_Lines.l0 : Nat → ByteArray → List (S32) → Int → Int → Option ((List (S32)) × Int × Int)
  | 0, _, _, _, _ => none
  | k + 1, x0, x2, x15, x16 => if x16 < x15 then (if 0 ≤ x16 then (if x16 < (x0.size : Int) then (if (bt x0 x16) = 9 then (lex_Lines.l0 k x0 x2 x15 (wrap64 (x16 + 1))) else (if (bt x0 x16) = 10 then (lex_Lines.l0 k x0 x2 x15 (wrap64 (x16 + 1))) else (if (bt x0 x16) < 32 then (some (([] : List (S32)), x16, 1)) else (if (bt x0 x16) > 126 then (some (([] : List (S32)), x16, 1)) else (lex_Lines.l0 k x0 x2 x15 (wrap64 (x16 + 1))))))) else (none)) else (none)) else (lex_Lines.l1 k x0 x2 ([] : List (S35)) 0)
def lex_Lines.l1 : Nat → ByteArray → List (S32) → List (S35) → Int → Option ((List (S32)) × Int × Int)
  | 0, _, _, _, _ => none
  | k + 1, x0, x2, x7, x9 => if x9 < (x0.size : Int) then (if 0 ≤ x9 then (if (bt x0 x9) = 9 then (lex_Lines.j2 k x0 x2 x7 x9 (bt x0 x9) ((bt x0 x9) == 9)) else (lex_Lines.j2 k x0 x2 x7 x9 (bt x0 x9) ((bt x0 x9) == 32))) else (none)) else (if (x7.length : Int) > 0 then (if x2.length < 5864062014805 then (some ((x2 ++ [(⟨x7⟩ : S32)]), 0, 0)) else (none)) else (some (x2, 0, 0)))
def lex_Lines.j2 : Nat → ByteArray → List (S32) → List (S35) → Int → Int → Bool → Option ((List (S32)) × Int × Int)
  | 0, _, _, _, _, _, _ => none
  | k + 1, x0, x2, x7, x9, x45, x46 => if x46 = true then (lex_Lines.l1 k x0 x2 x7 (wrap64 (x9 + 1))) else (if x45 = 10 then (if (x7.length : Int) > 0 then (if x2.length < 5864062014805 then (lex_Lines.l1 k x0 (x2 ++ [(⟨x7⟩ : S32)]) ([] : List (S35)) (wrap64 (x9 + 1))) else (none)) else (lex_Lines.l1 k x0 x2 x7 (wrap64 (x9 + 1)))) else (if x45 = 35 then (lex_Lines.l2 k x0 x2 x7 x9) else (lex_Lines.l3 k x0 x2 x7 x9 x9)))
def lex_Lines.l2 : Nat → ByteArray → List (S32) → List (S35) → Int → Option ((List (S32)) × Int × Int)
  | 0, _, _, _, _ => none
  | k + 1, x0, x2, x7, x9 => if x9 < (x0.size : Int) then (if 0 ≤ x9 then (if (bt x0 x9) = 10 then (lex_Lines.l1 k x0 x2 x7 x9) else (lex_Lines.l2 k x0 x2 x7 (wrap64 (x9 + 1)))) else (none)) else (lex_Lines.l1 k x0 x2 x7 x9)
def lex_Lines.l3 : Nat → ByteArray → List (S32) → List (S35) → Int → Int → Option ((List (S32)) × Int × Int)
  | 0, _, _, _, _, _ => none
  | k + 1, x0, x2, x7, x9, x10 => if x9 < (x0.size : Int) then (if 0 ≤ x9 then (if (bt x0 x9) = 9 then (if 0 ≤ x10 then (if x10 ≤ x9 then (if x9 ≤ (x0.size : Int) then (if x7.length < 5864062014805 then (lex_Lines.l1 k x0 x2 (x7 ++ [(⟨x0.extract (x10 : Int).toNat (x9 : Int).toNat, x10⟩ : S35)]) x9) else (none)) else (none)) else (none)) else (none)) else (if (bt x0 x9) = 32 then (if 0 ≤ x10 then (if x10 ≤ x9 then (if x9 ≤ (x0.size : Int) then (if x7.length < 5864062014805 then (lex_Lines.l1 k x0 x2 (x7 ++ [(⟨x0.extract (x10 : Int).toNat (x9 : Int).toNat, x10⟩ : S35)]) x9) else (none)) else (none)) else (none)) else (none)) else (if (bt x0 x9) = 10 then (if 0 ≤ x10 then (if x10 ≤ x9 then (if x9 ≤ (x0.size : Int) then (if x7.length < 5864062014805 then (lex_Lines.l1 k x0 x2 (x7 ++ [(⟨x0.extract (x10 : Int).toNat (x9 : Int).toNat, x10⟩ : S35)]) x9) else (none)) else (none)) else (none)) else (none)) else (if (bt x0 x9) = 35 then (if 0 ≤ x10 then (if x10 ≤ x9 then (if x9 ≤ (x0.size : Int) then (if x7.length < 5864062014805 then (lex_Lines.l1 k x0 x2 (x7 ++ [(⟨x0.extract (x10 : Int).toNat (x9 : Int).toNat, x10⟩ : S35)]) x9) else (none)) else (none)) else (none)) else (none)) else (lex_Lines.l3 k x0 x2 x7 (wrap64 (x9 + 1)) x10))))) else (none)) else (if 0 ≤ x10 then (if x10 ≤ x9 then (if x9 ≤ (x0.size : Int) then (if x7.length < 5864062014805 then (lex_Lines.l1 k x0 x2 (x7 ++ [(⟨x0.extract (x10 : Int).toNat (x9 : Int).toNat, x10⟩ : S35)]) x9) else (none)) else (none)) else (none)) else (none))
end
def lex_Lines.f (k : Nat) (a0 : ByteArray) : Option ((List (S32)) × Int × Int) := if (a0.size : Int) > 4194304 then (some (([] : List (S32)), 0, 2)) else (lex_Lines.l0 k a0 ([] : List (S32)) (a0.size : Int) 0)
theorem lex_Lines.mono_l : ∀ k, (∀ y0 y1 y2 y3, LeO (lex_Lines.l0 k y0 y1 y2 y3) (lex_Lines.l0 (k + 1) y0 y1 y2 y3)) ∧ (∀ y0 y1 y2 y3, LeO (lex_Lines.l1 k y0 y1 y2 y3) (lex_Lines.l1 (k + 1) y0 y1 y2 y3)) ∧ (∀ y0 y1 y2 y3 y4 y5, LeO (lex_Lines.j2 k y0 y1 y2 y3 y4 y5) (lex_Lines.j2 (k + 1) y0 y1 y2 y3 y4 y5)) ∧ (∀ y0 y1 y2 y3, LeO (lex_Lines.l2 k y0 y1 y2 y3) (lex_Lines.l2 (k + 1) y0 y1 y2 y3)) ∧ (∀ y0 y1 y2 y3 y4, LeO (lex_Lines.l3 k y0 y1 y2 y3 y4) (lex_Lines.l3 (k + 1) y0 y1 y2 y3 y4))
  | 0 => ⟨fun _ _ _ _ r h => by simp [lex_Lines.l0] at h, fun _ _ _ _ r h => by simp [lex_Lines.l1] at h, fun _ _ _ _ _ _ r h => by simp [lex_Lines.j2] at h, fun _ _ _ _ r h => by simp [lex_Lines.l2] at h, fun _ _ _ _ _ r h => by simp [lex_Lines.l3] at h⟩
  | k + 1 => by
    obtain ⟨ih0, ih1, ih2, ih3, ih4⟩ := lex_Lines.mono_l k
    refine ⟨?_, ?_, ?_, ?_, ?_⟩
    · intro y0 y1 y2 y3
      unfold lex_Lines.l0
      repeat' first
      | (with_reducible exact ih0 _ _ _ _)
      | (with_reducible exact ih1 _ _ _ _)
      | (with_reducible exact ih2 _ _ _ _ _ _)
      | (with_reducible exact ih3 _ _ _ _)
      | (with_reducible exact ih4 _ _ _ _ _)
      | (with_reducible exact LeO.refl _)
      | (with_reducible exact LeO.none _)
      | (with_reducible refine LeO.ite ?_ ?_)
      | (with_reducible refine LeO.bind ?_ (fun _ => ?_))
      | exact ih0 _ _ _ _
      | exact ih1 _ _ _ _
      | exact ih2 _ _ _ _ _ _
      | exact ih3 _ _ _ _
      | exact ih4 _ _ _ _ _
      | exact LeO.none _
      | refine LeO.ite ?_ ?_
      | refine LeO.bind ?_ (fun _ => ?_)
    · intro y0 y1 y2 y3
      unfold lex_Lines.l1
      repeat' first
      | (with_reducible exact ih0 _ _ _ _)
      | (with_reducible exact ih1 _ _ _ _)
      | (with_reducible exact ih2 _ _ _ _ _ _)
      | (with_reducible exact ih3 _ _ _ _)
      | (with_reducible exact ih4 _ _ _ _ _)
      | (with_reducible exact LeO.refl _)
      | (with_reducible exact LeO.none _)
      | (with_reducible refine LeO.ite ?_ ?_)
      | (with_reducible refine LeO.bind ?_ (fun _ => ?_))
      | exact ih0 _ _ _ _
      | exact ih1 _ _ _ _
      | exact ih2 _ _ _ _ _ _
      | exact ih3 _ _ _ _
      | exact ih4 _ _ _ _ _
      | exact LeO.none _
      | refine LeO.ite ?_ ?_
      | refine LeO.bind ?_ (fun _ => ?_)
    · intro y0 y1 y2 y3 y4 y5
      unfold lex_Lines.j2
      repeat' first
      | (with_reducible exact ih0 _ _ _ _)
      | (with_reducible exact ih1 _ _ _ _)
      | (with_reducible exact ih2 _ _ _ _ _ _)
      | (with_reducible exact ih3 _ _ _ _)
      | (with_reducible exact ih4 _ _ _ _ _)
      | (with_reducible exact LeO.refl _)
      | (with_reducible exact LeO.none _)
      | (with_reducible refine LeO.ite ?_ ?_)
      | (with_reducible refine LeO.bind ?_ (fun _ => ?_))
      | exact ih0 _ _ _ _
      | exact ih1 _ _ _ _
      | exact ih2 _ _ _ _ _ _
      | exact ih3 _ _ _ _
      | exact ih4 _ _ _ _ _
      | exact LeO.none _
      | refine LeO.ite ?_ ?_
      | refine LeO.bind ?_ (fun _ => ?_)
    · intro y0 y1 y2 y3
      unfold lex_Lines.l2
      repeat' first
      | (with_reducible exact ih0 _ _ _ _)
      | (with_reducible exact ih1 _ _ _ _)
      | (with_reducible exact ih2 _ _ _ _ _ _)
      | (with_reducible exact ih3 _ _ _ _)
      | (with_reducible exact ih4 _ _ _ _ _)
      | (with_reducible exact LeO.refl _)
      | (with_reducible exact LeO.none _)
      | (with_reducible refine LeO.ite ?_ ?_)
      | (with_reducible refine LeO.bind ?_ (fun _ => ?_))
      | exact ih0 _ _ _ _
      | exact ih1 _ _ _ _
      | exact ih2 _ _ _ _ _ _
      | exact ih3 _ _ _ _
      | exact ih4 _ _ _ _ _
      | exact LeO.none _
      | refine LeO.ite ?_ ?_
      | refine LeO.bind ?_ (fun _ => ?_)
    · intro y0 y1 y2 y3 y4
      unfold lex_Lines.l3
      repeat' first
      | (with_reducible exact ih0 _ _ _ _)
      | (with_reducible exact ih1 _ _ _ _)
      | (with_reducible exact ih2 _ _ _ _ _ _)
      | (with_reducible exact ih3 _ _ _ _)
      | (with_reducible exact ih4 _ _ _ _ _)
      | (with_reducible exact LeO.refl _)
      | (with_reducible exact LeO.none _)
      | (with_reducible refine LeO.ite ?_ ?_)
      | (with_reducible refine LeO.bind ?_ (fun _ => ?_))
      | exact ih0 _ _ _ _
      | exact ih1 _ _ _ _
      | exact ih2 _ _ _ _ _ _
      | exact ih3 _ _ _ _
      | exact ih4 _ _ _ _ _
      | exact LeO.none _
      | refine LeO.ite ?_ ?_
      | refine LeO.bind ?_ (fun _ => ?_)
theorem lex_Lines.mono : ∀ a0 k, LeO (lex_Lines.f k a0) (lex_Lines.f (k + 1) a0) := by
  intro a0 k
  obtain ⟨ih0, ih1, ih2, ih3, ih4⟩ := lex_Lines.mono_l k
  unfold lex_Lines.f
  repeat' first
      | (with_reducible exact ih0 _ _ _ _)
      | (with_reducible exact ih1 _ _ _ _)
      | (with_reducible exact ih2 _ _ _ _ _ _)
      | (with_reducible exact ih3 _ _ _ _)
      | (with_reducible exact ih4 _ _ _ _ _)
      | (with_reducible exact LeO.refl _)
      | (with_reducible exact LeO.none _)
      | (with_reducible refine LeO.ite ?_ ?_)
      | (with_reducible refine LeO.bind ?_ (fun _ => ?_))
      | exact ih0 _ _ _ _
      | exact ih1 _ _ _ _
      | exact ih2 _ _ _ _ _ _
      | exact ih3 _ _ _ _
      | exact ih4 _ _ _ _ _
      | exact LeO.none _
      | refine LeO.ite ?_ ?_
      | refine LeO.bind ?_ (fun _ => ?_)
end Go.Proofs.YtggibjbcbicpjaaDoor.QLexWhere
