/- The row of plnlaw3.IrTells: it answers true, whatever the modules. -/
import Derived.Test.YtggibjbcbicpjaaRows
import Derived.Test.YtggibjbcbicpjaaJrB
import Derived.Test.YtggibjbcbicpjaaIrS
import Derived.Test.YtggibjbcbicpjaaEvTr
import Derived.Test.YtggibjbcbicpjaaEvMc
import Derived.WalkKit
import Derived.ProofKit
import Derived.OpenShut
import Derived.ShutString
import Derived.ChangeOld
import Derived.Below
import Derived.SizedLaws
namespace Go.Proofs.Ytggibjbcbicpjaa.irTells
open Go.ChangeShapes Go.WideShapes Go.ChangeAt Go.RowKit
open Go.ChangeMaps (open_string shut_string)
set_option linter.unusedVariables false
theorem own : ownKnob Try.prog.godebug = none := by kernel_rfl
theorem laidOut : laidOutB Try.prog = true := by kernel_rfl
set_option maxRecDepth 100000 in
theorem lifted (os : Os) (started : os.Started) (H : Type) (enc : TypeId × Value → H) :
    ReturnsInHanded {} Try.checked os 12 .any (Rows.irTellsSpec.pre6 enc Try.prog Try.f12 Rows.irTellsRow.domain false) (Rows.irTellsSpec.post enc Try.prog Try.f12 false true false false) := by
  refine returnsInHanded_of_change_sized (C := Try.checked) own started (by kernel_rfl) Try.func12
    (ChangeSpec.witness6 (enc := enc) (C := Try.checked) false ⟨#[], #[.agg #[.slice none 0 0, .slice none 0 0, .slice none 0 0, .slice none 0 0], .agg #[.slice none 0 0, .slice none 0 0, .slice none 0 0, .slice none 0 0]], []⟩ 8 (by kernel_rfl) (by kernel_rfl) (by kernel_rfl) (by kernel_rfl)) ?_
  intro W base args ds gs before hval0 hW hcnd hsz0 _
  have hval : ∀ (j : Nat) t v, Try.f12.params[j]? = some t → args[j]? = some v → Value.okWide Try.prog W .any base t v := hval0
  have hW' := hW
  obtain ⟨p, q, hA0, hV, rfl, hfz, hnd⟩ := hW
  have hA : DataW.TrodAll enc Try.prog W 0 (fun _ => true) true Try.f12.params.toList args.toList ds p := hA0
  rw [Try.params12] at hA hval
  obtain ⟨v0, vs0, d0, ds0, p0, q0, hargs, rfl, rfl, h0, r0⟩ := trodAll_cons hA
  obtain ⟨v1, vs1, d1, ds1, p1, q1, rfl, rfl, rfl, h1, r1⟩ := trodAll_cons r0
  obtain ⟨rfl, rfl, rfl⟩ := trodAll_nil r1
  obtain rfl : args = #[v0, v1] := by cases args; simp_all
  obtain ⟨rfl, rfl⟩ := trodVars_none hV
  obtain ⟨cs0, rfl, _⟩ := okWide_struct Try.underlying27 (hval 0 27 v0 rfl rfl)
  have k0 := h0
  have lt0 : ∀ x ∈ p0, x.block < W.heap.size := by obtain ⟨m, hm⟩ := k0; exact DataW.trod_lt m _ _ _ hm
  obtain ⟨m, hl0, wide0⟩ : ∃ f : Ev.Module, Ev.Rep Ev.tb (fun b _ => b < W.heap.size) W (.agg cs0) (Ev.modA f) ∧ Ev.wideM f := by
    obtain ⟨fuel, hf⟩ := h0
    exact Ev.open_mod hf (Ev.weigh (j := 0) hsz0 (by rw [Try.params12]; rfl) rfl)
  obtain ⟨cs1, rfl, _⟩ := okWide_struct Try.underlying27 (hval 1 27 v1 rfl rfl)
  have k1 := h1
  have lt1 : ∀ x ∈ p1, x.block < W.heap.size := by obtain ⟨m, hm⟩ := k1; exact DataW.trod_lt m _ _ _ hm
  obtain ⟨o, hl1, wide1⟩ : ∃ f : Ev.Module, Ev.Rep Ev.tb (fun b _ => b < W.heap.size) W (.agg cs1) (Ev.modA f) ∧ Ev.wideM f := by
    obtain ⟨fuel, hf⟩ := h1
    exact Ev.open_mod hf (Ev.weigh (j := 1) hsz0 (by rw [Try.params12]; rfl) rfl)
  clear hA0 hval0 hsz0
  refine (Ev.law_run (vs := [.agg cs0, .agg cs1]) (Ev.tells3_ok m o wide0 wide1) rfl (fun a ha => by simp [Ev.a12] at ha; rcases ha with rfl | rfl <;> rfl) (fun i v a e1 e2 => by
    match i, e1, e2 with
    | 0, e1, e2 => cases e1; cases e2; exact hl0
    | 1, e1, e2 => cases e1; cases e2; exact hl1
    | i + 2, e1, e2 => simp at e1)).mono fun e W' ⟨he, bel⟩ => ?_
  subst he
  exact ⟨_, rfl, _, _, _, [], _, [], hW', trodAll_mk1 (shut_bool Try.underlying4 _), (trodAll_cons_mk (Below.trod laidOut (by kernel_rfl) (of_decide_eq_true (by kernel_rfl)) k0 bel lt0) (trodAll_cons_mk (Below.trod laidOut (by kernel_rfl) (of_decide_eq_true (by kernel_rfl)) k1 bel lt1) trodAll_mk0)), rfl, bel.frame _, fun h => by cases h⟩
theorem over : Rows.irTellsRow.holds Try.pinned (OpenSpec.ofChange Rows.irTellsSpec) :=
  OpenClaim.holds_of_wide 12 Try.f12 rfl rfl rfl rfl rfl rfl rfl ⟨rfl, rfl, rfl, rfl, rfl⟩ rfl rfl rfl rfl rfl (by kernel_rfl) Try.func12 (by kernel_rfl)
    (of_decide_eq_true (by kernel_rfl)) (by unfold Func.isWrapper; first | (rw [if_pos (by decide +kernel)]; kernel_rfl) | (rw [if_neg (by decide +kernel)]; exact ⟨rfl, rfl⟩))
    (fun os started H enc _ => lifted os started H enc)
theorem proved : Rows.IrTellsSaid := over
#print axioms proved
end Go.Proofs.Ytggibjbcbicpjaa.irTells
namespace Go.Proofs.Ytggibjbcbicpjaa
/-- The row, under a short name, for the claim. -/
theorem irTells_holds : Rows.IrTellsSaid := irTells.proved
end Go.Proofs.Ytggibjbcbicpjaa
