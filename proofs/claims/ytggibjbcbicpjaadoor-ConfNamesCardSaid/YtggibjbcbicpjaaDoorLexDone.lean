import Derived.Scope
import Derived.Test.YtggibjbcbicpjaaDoorLinesP
import Derived.Test.YtggibjbcbicpjaaDoorQLexWherex1
namespace Go.Proofs.YtggibjbcbicpjaaDoor.QLexWhere
open Go.RowKit Go.Proofs.YtggibjbcbicpjaaDoorW.PrintWords Go.Proofs.YtggibjbcbicpjaaDoorW.PrintLast Go.Proofs.YtggibjbcbicpjaaDoorW.PrintMore
set_option linter.unusedVariables false
/-- What the variables l and now hold, that the closure shares. -/
def LexB (W : World) (base gl gn : Nat) (ls : List S32) (ws : List S35) : Prop :=
  (gl ≠ gn ∧ base ≤ gl ∧ base ≤ gn) ∧ ∃ v2 v7, W.heap[gl]? = some (.cells #[v2] 23 (0, 0)) ∧ W.heap[gn]? = some (.cells #[v7] 30 (0, 0)) ∧
    Kd.S k32 32 W base (fun k => (k ≠ gl ∧ k ≠ gn) ∧ ¬ some k = v7.ownBlock) v2 ls ∧ Kd.R k35 35 W base (fun k => k ≠ gl ∧ k ≠ gn) v7 ws
theorem LexB.size {W : World} {base gl gn : Nat} {ls : List S32} {ws : List S35} (h : LexB W base gl gn ls ws) : base ≤ W.heap.size := by
  obtain ⟨⟨_, h1, _⟩, v2, v7, hb, _⟩ := h
  exact Nat.le_of_lt (Nat.lt_of_le_of_lt h1 (blk_lt hb))
set_option maxHeartbeats 4000000 in
set_option maxRecDepth 100000 in
theorem done_ (W : World) (base gl gn : Nat) (ls : List S32) (ws : List S35) (h : LexB W base gl gn ls ws) (hl : 0 < ws.length → ls.length < 5864062014805) :
    Calls Tryd.prog 28 #[.pointer (some ⟨gn, 0, none⟩), .pointer (some ⟨gl, 0, none⟩)] W fun e w' => e = .returned (.tuple #[]) ∧ LexB w' base gl gn (if ws.length > 0 then ls ++ [⟨ws⟩] else ls) [] ∧ Below base W w' := by
  have HZ := Aside0.mk h.size
  obtain ⟨hne, v2, v7, hb2, hb7, hS, hR⟩ := h
  have HN := Aside0.mk hne
  obtain ⟨A7, c7, rfl⟩ := Kd.R_slice hR
  have hc2 := blk_cell hb2 0
  have hc7 := blk_cell hb7 0
  have hf2 := blk_frozen hb2 0
  have hf7 := blk_frozen hb7 0
  have HS := Aside0.mk hS
  have HR := Aside0.mk hR
  have HB2 := Aside0.mk hb2
  have HB7 := Aside0.mk hb7
  have HL := Aside0.mk hl
  clear hS hR hb2 hb7 hne hl
  by_cases hw : 0 < ws.length
  · rw [if_pos hw]
    have d0 : decide (0 < (ws.length : Int)) = true := decide_eq_true (by omega)
    have d1 : decide (0 < ws.length) = true := decide_eq_true hw
    have hw0 := hw
    clear hw
    have HN7 : Aside0 (gn ≠ gl) := ⟨fun e => HN.out.1 e.symm⟩
    have HF : Aside0 (∀ k, W.heap.size ≤ k → k ≠ gl ∧ k ≠ gn) := ⟨fun k hk => by have h1 := blk_lt HB2.out; have h2 := blk_lt HB7.out; omega⟩
    have HLL : Aside0 ((ls.length + 1) * 24 ≤ 140737488355328) := ⟨by have := HL.out hw0; omega⟩
    clear hw0
    go_enter Tryd.func28, Tryd.ntmps28
    go_wp2_with (first | ((with_reducible refine gate_builtin (b := .append) (xs := #[.tmp 5, .tmp 8]) rfl ?_); at_builtin; refine Kd.S_append k32 (w0 := W) base rfl (.tmp 5) (.tmp 8) 23 32 (.agg #[(.slice none 0 0)]) 24 rfl Tryd.underlying23 info32 rfl (by decide) (by omega) v2 ls (⟨ws⟩ : S32) [.slice A7 ws.length c7] (fun k => k ≠ gl ∧ k ≠ gn) (fun k_ => some k_ = (.slice A7 ws.length c7 : Value).ownBlock) rfl rfl ?aP ?aK ?aF HS.out (Below.refl _ _) HZ.out ?aL ?_; (case aK => exact fun k_ hk_ => (Kd.R_apart' (HR.out) (Kd.S_typed HS.out) (by decide)).1 k_ hk_.symm); (case aP => exact k49_mkM _ _ _ (⟨ws⟩ : S32) (Kd.R_mono (Kd.R_tight rfl HR.out) (fun _ h_ => h_))); (case aF => exact HF.out); (case aL => exact HLL.out); intro v105 w21 ho hb hg hat; obtain ⟨A9, c9, e9⟩ := Kd.R_slice (Kd.S_R ho); subst e9; have HO := Aside0.mk ho; have HB := Aside0.mk hb; have HG := Aside0.mk hg; clear ho hb hg hat; have hb2 : w21.heap[gl]? = some (.cells #[v2] 23 (0, 0)) := blk_grown HB2.out HG.out (fun e => ((Kd.S_R HS.out).1 gl e.symm).1.1 rfl); have hb7 : w21.heap[gn]? = some (.cells #[.slice A7 ws.length c7] 30 (0, 0)) := blk_grown HB7.out HG.out (fun e => ((Kd.S_R HS.out).1 gn e.symm).1.2 rfl); have HX2 := Aside0.mk hb2; have HX7 := Aside0.mk hb7; clear hb2 hb7; have hcx2 := blk_cell HX2.out 0; have hcx7 := blk_cell HX7.out 0; have hfx2 := blk_frozen HX2.out 0; have hfx7 := blk_frozen HX7.out 0; have hb7y := blk_far (p := ⟨gl, 0, none⟩) HX7.out HN7.out (.slice A9 (ls ++ [(⟨ws⟩ : S32)]).length c9); rw [List.length_append, List.length_singleton] at hb7y; have HY7 := Aside0.mk hb7y; clear hb7y; have hcy7 := blk_cell HY7.out 0; have hfy7 := blk_frozen HY7.out 0))
    refine bodyPost_end (results_none rfl _ _ _) rfl ?_
    refine ⟨rfl, ⟨HN.out, _, _, blk_far (p := ⟨gn, 0, none⟩) (blk_put HX2.out 0 _ rfl) HN.out.1 _, blk_put HY7.out 0 _ rfl, Kd.S_mono (Kd.S_far (p := ⟨gn, 0, none⟩) (Kd.S_far (p := ⟨gl, 0, none⟩) (by simpa using HO.out) (fun k hk => hk.1) _) (fun k hk => hk.2) _) (fun k hk => ⟨hk, by simp [Value.ownBlock]⟩), Kd.R_nil _ _ _ _ _⟩, ?_⟩
    exact (HB.out.setCell (p := ⟨gl, 0, none⟩) HN.out.2.1 _).setCell (p := ⟨gn, 0, none⟩) HN.out.2.2 _
  · rw [if_neg hw]
    have d0 : decide (0 < (ws.length : Int)) = false := decide_eq_false (by omega)
    have d1 : decide (0 < ws.length) = false := decide_eq_false hw
    have hws : ws = [] := List.eq_nil_of_length_eq_zero (by omega)
    clear hw
    go_enter Tryd.func28, Tryd.ntmps28
    go_wp2_with fail
    subst hws
    refine bodyPost_end (results_none rfl _ _ _) rfl ?_
    exact ⟨rfl, ⟨HN.out, _, _, HB2.out, HB7.out, HS.out, HR.out⟩, Below.refl _ _⟩
end Go.Proofs.YtggibjbcbicpjaaDoor.QLexWhere
