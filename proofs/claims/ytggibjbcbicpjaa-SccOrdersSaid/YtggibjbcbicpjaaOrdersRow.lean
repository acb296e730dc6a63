/- The row of plnlaw14.SccOrders: it answers true, whatever the graph. -/
import Derived.Test.YtggibjbcbicpjaaRows
import Derived.Test.YtggibjbcbicpjaaSccLa
import Derived.Test.YtggibjbcbicpjaaEvTr
import Derived.Test.YtggibjbcbicpjaaEvMc
import Derived.WalkKit
import Derived.ProofKit
import Derived.OpenShut
import Derived.ShutString
import Derived.ChangeOld
import Derived.Below
import Derived.SizedLaws
namespace Go.Proofs.Ytggibjbcbicpjaa.sccOrders
open Go.ChangeShapes Go.WideShapes Go.ChangeAt Go.RowKit
open Go.ChangeMaps (open_string shut_string)
set_option linter.unusedVariables false
theorem own : ownKnob Try.prog.godebug = none := by kernel_rfl
theorem laidOut : laidOutB Try.prog = true := by kernel_rfl
set_option maxRecDepth 100000 in
theorem lifted (os : Os) (started : os.Started) (H : Type) (enc : TypeId × Value → H) :
    ReturnsInHanded {} Try.checked os 8 .any (Rows.sccOrdersSpec.pre6 enc Try.prog Try.f8 Rows.sccOrdersRow.domain false) (Rows.sccOrdersSpec.post enc Try.prog Try.f8 false true false false) := by
  refine returnsInHanded_of_change_sized (C := Try.checked) own started (by kernel_rfl) Try.func8
    (ChangeSpec.witness6 (enc := enc) (C := Try.checked) false ⟨#[], #[.slice none 0 0], []⟩ 8 (by kernel_rfl) (by kernel_rfl) (by kernel_rfl) (by kernel_rfl)) ?_
  intro W base args ds gs before hval0 hW hcnd hsz0 _
  have hval : ∀ (j : Nat) t v, Try.f8.params[j]? = some t → args[j]? = some v → Value.okWide Try.prog W .any base t v := hval0
  have hW' := hW
  obtain ⟨p, q, hA0, hV, rfl, hfz, hnd⟩ := hW
  have hA : DataW.TrodAll enc Try.prog W 0 (fun _ => true) true Try.f8.params.toList args.toList ds p := hA0
  rw [Try.params8] at hA hval
  obtain ⟨v0, vs0, d0, ds0, p0, q0, hargs, rfl, rfl, h0, r0⟩ := trodAll_cons hA
  obtain ⟨rfl, rfl, rfl⟩ := trodAll_nil r0
  obtain rfl : args = #[v0] := by cases args; simp_all
  obtain ⟨rfl, rfl⟩ := trodVars_none hV
  obtain ⟨a0, len0, cap0, rfl⟩ := okWide_slice Try.underlying52 (hval 0 52 v0 rfl rfl)
  have k0 := h0
  have lt0 : ∀ x ∈ p0, x.block < W.heap.size := by obtain ⟨m, hm⟩ := k0; exact DataW.trod_lt m _ _ _ hm
  obtain ⟨g, hl0⟩ : ∃ l : List (List Int), Ev.Rep Ev.tb (fun b _ => b < W.heap.size) W (.slice a0 len0 cap0) (.sl false 30 l) := by
    obtain ⟨fuel, hf⟩ := h0
    obtain ⟨l, h1, _⟩ := Ev.open_row Ev.tbOk Ev.good Ev.reads (t := 52) (e := 30) rfl rfl rfl hf
    exact ⟨l, h1⟩
  clear hA0 hval0 hsz0
  refine (Ev.law_run (vs := [.slice a0 len0 cap0]) (Ev.orders_ok g) rfl (fun a ha => by simp [Ev.a8] at ha; rcases ha with rfl <;> rfl) (fun i v a e1 e2 => by
    match i, e1, e2 with
    | 0, e1, e2 => cases e1; cases e2; exact hl0
    | i + 1, e1, e2 => simp at e1)).mono fun e W' ⟨he, bel⟩ => ?_
  subst he
  exact ⟨_, rfl, _, _, _, [], _, [], hW', trodAll_mk1 (shut_bool Try.underlying4 _), (trodAll_cons_mk (Below.trod laidOut (by kernel_rfl) (of_decide_eq_true (by kernel_rfl)) k0 bel lt0) trodAll_mk0), rfl, bel.frame _, fun h => by cases h⟩
theorem over : Rows.sccOrdersRow.holds Try.pinned (OpenSpec.ofChange Rows.sccOrdersSpec) :=
  OpenClaim.holds_of_wide 8 Try.f8 rfl rfl rfl rfl rfl rfl rfl ⟨rfl, rfl, rfl, rfl, rfl⟩ rfl rfl rfl rfl rfl (by kernel_rfl) Try.func8 (by kernel_rfl)
    (of_decide_eq_true (by kernel_rfl)) (by unfold Func.isWrapper; first | (rw [if_pos (by decide +kernel)]; kernel_rfl) | (rw [if_neg (by decide +kernel)]; exact ⟨rfl, rfl⟩))
    (fun os started H enc _ => lifted os started H enc)
theorem proved : Rows.SccOrdersSaid := over
#print axioms proved
end Go.Proofs.Ytggibjbcbicpjaa.sccOrders
namespace Go.Proofs.Ytggibjbcbicpjaa
/-- The row, under a short name, for the claim. -/
theorem sccOrders_holds : Rows.SccOrdersSaid := sccOrders.proved
end Go.Proofs.Ytggibjbcbicpjaa
