/- What LexTells's six last calls answer: two by two the same. -/
import Derived.Test.YtggibjbcbicpjaaDoorNumR
namespace Go.Proofs.YtggibjbcbicpjaaDoor.TellsAid
open Go Go.RowKit Go.Proofs.YtggibjbcbicpjaaDoor.Num Go.Proofs.YtggibjbcbicpjaaDoor.NumR Go.Proofs.YtggibjbcbicpjaaDoor.QLexTells Go.Proofs.YtggibjbcbicpjaaDoorW.PrintWords
set_option linter.unusedVariables false
/-- lex.Num and plnref1.Num at a1, lex.Ref and plnref1.Ref at a1 and a3, lex.Show and plnref1.Show at a2. -/
def Tl (a1 : ByteArray) (a2 a3 : Int) : Prop := ∃ (x : Int) (q : Bool) (y : Int) (p : Bool) (S : ByteArray),
  (∀ w, LaidW w → Calls Tryd.prog 12 #[.string a1] w fun e w' => e = .returned (.tuple #[.int .i64 x, .bool q]) ∧ Below w.heap.size w w') ∧
  (∀ w, Calls Tryd.prog 13 #[.string a1] w fun e w' => e = .returned (.tuple #[.int .i64 x, .bool q]) ∧ Below w.heap.size w w') ∧
  (∀ w, LaidW w → Calls Tryd.prog 14 #[.string a1, .int .u8 a3] w fun e w' => e = .returned (.tuple #[.int .i64 y, .bool p]) ∧ Below w.heap.size w w') ∧
  (∀ w, Calls Tryd.prog 15 #[.string a1, .int .u8 a3] w fun e w' => e = .returned (.tuple #[.int .i64 y, .bool p]) ∧ Below w.heap.size w w') ∧
  (∀ w, LaidW w → Calls Tryd.prog 16 #[.int .i64 a2] w fun e w' => e = .returned (.string S) ∧ Below w.heap.size w w') ∧
  (∀ w, Calls Tryd.prog 17 #[.int .i64 a2] w fun e w' => e = .returned (.string S) ∧ Below w.heap.size w w')
theorem drawn_below {w w' : World} (h : Drawn0 w w') : Below w.heap.size w w' := by
  obtain ⟨nd, rfl⟩ := h
  exact pw_below_drewN (Below.refl _ _) nd
theorem tl_ok (a1 : ByteArray) (a2 a3 : Int) (h1 : a1.size ≤ 140737488351232) (h2 : -9223372036854775808 ≤ a2) (h3 : a2 ≤ 9223372036854775807) : Tl a1 a2 a3 := by
  obtain ⟨K1, e1⟩ := num_f a1 h1
  obtain ⟨K2, e2⟩ := ref_f a1 a3 h1
  obtain ⟨K3, e3⟩ := show_f a2 h2 h3
  refine ⟨_, _, _, _, _, fun w hL => num_ok a1 (by omega) w hL, fun w => ?_, fun w hL => ref_ok a1 a3 (by omega) w hL, fun w => ?_, fun w hL => show_ok a2 h2 h3 w hL, fun w => plnref1_Show.calls K3 a2 _ w e3⟩
  · exact (plnref1_Num.calls K1 a1 _ _ w e1).mono fun e w' ⟨he, hd⟩ => ⟨he, drawn_below hd⟩
  · exact (plnref1_Ref.calls K2 a1 a3 _ _ w e2).mono fun e w' ⟨he, hd⟩ => ⟨he, drawn_below hd⟩
end Go.Proofs.YtggibjbcbicpjaaDoor.TellsAid
