/- conf.Parse at the empty text, conf.Check at what it tells. -/
import Derived.Test.YtggibjbcbicpjaaDoorConfName
import Derived.Test.YtggibjbcbicpjaaDoorLexSpec
import Derived.Maps.OwnOps
import Derived.Maps.Own
import Derived.Deep.QuietTactic
import Derived.BigQuiet
import Derived.StringKeys
import Derived.StillTailTactics
namespace Go.Proofs.YtggibjbcbicpjaaDoor.Conf
open Go Go.RowKit Go.Maps Go.WideMaps Go.Deep Go.Proofs.YtggibjbcbicpjaaDoorW.PrintWords
open Go.Proofs.YtggibjbcbicpjaaDoor.QLexWhere (lex_Lines.f lex_Lines.calls)
set_option linter.unusedVariables false
set_option linter.unusedSimpArgs false
abbrev cNil : Value := .agg #[.int .i64 1, .int .i64 0, .int .i64 0, .slice none 0 0]
set_option maxRecDepth 100000 in
theorem check_nil (w : World) : Calls Tryd.prog 25 #[cNil] w fun e w' => e = .returned (.int .i64 0) ∧ Below w.heap.size w w' := by
  go_enter Tryd.func25, Tryd.ntmps25
  go_wp2
  refine wp_loop_rounds 1 ?_
  rw [rounds_succ]
  go_wp2
  go_ret
  exact ⟨rfl, (Below.refl _ _).alloc (Nat.le_refl _) _⟩
theorem lines_nil : ∃ K, lex_Lines.f K ⟨#[]⟩ = some ([], 0, 0) := LexSpec.good ⟨#[]⟩ (by decide) (fun j hj => absurd hj (Nat.not_lt_zero _))
theorem law9 : Keyed Tryd.prog 9 := string_keyed Tryd.underlying9
theorem zero2 (w : World) : (zeroValue 2).run Tryd.prog w = .ok (.int .i64 0) w := by kernel_rfl
abbrev kR : ByteArray := ⟨#[114, 111, 117, 110, 100, 115]⟩
abbrev kG : ByteArray := ⟨#[103, 114, 111, 119]⟩
abbrev kC : ByteArray := ⟨#[99, 111, 115, 116]⟩
set_option maxRecDepth 100000 in
theorem look {W : World} {b n : Nat} {D : DataW Unit} (h : W.ownsMap Tryd.prog 9 (plainElem Tryd.prog 2) b n D) {s : ByteArray} (hs : s.size ≤ maxLen) {c : Int}
    (hD : D.atKey (.string s.data.toList) (.lit (.int .i64 0)) = .lit (.int .i64 c)) :
    (Instr.lookup 71 (.map (some b)) (.string s) false).run Tryd.prog W = .ok (.int .i64 c) W := by
  obtain ⟨c', hrun, hat, _⟩ := h.lookup_int law9 Tryd.underlying71 Tryd.underlying2 (zero2 _) (keyOf_string_mk Tryd.underlying9 hs)
  rw [hD] at hat
  injection hat with hat
  injection hat with _ hat
  rw [hrun]
  subst hat
  rfl
theorem results_cell3 {fn : Func} {p t u : Tmp} {ty : TypeId} (h : fn.results = #[.cell p ty, .tmp t, .tmp u]) (tmps : Array Value) (P : Program) (w : World) :
    (results fn tmps).run P w =
      ((asAddr (tmps.getD p undef)).run P w).andThen fun a w₁ => ((loadVar ty a).run P w₁).andThen fun v w₂ => .ok (.tuple #[v, tmps.getD t undef, tmps.getD u undef]) w₂ := by
  simp only [results, h]
  simp [Sem.run_bind, Result.andThen]
theorem resC {w : World} {g : Nat} {a b c d : Value} (tmps : Array Value) (h2 : tmps.getD 2 undef = .pointer (some ⟨g, 0, none⟩)) (hg : w.heap[g]? = some (.cells #[a, b, c, d] 51 (0, 0))) :
    (results Tryd.f20 tmps).run Tryd.prog w = .ok (.tuple #[.agg #[a, b, c, d], tmps.getD 3 undef, tmps.getD 4 undef]) w := by
  rw [results_cell3 (p := 2) (t := 3) (u := 4) (ty := 51) rfl, h2]
  have hl : (loadVar 51 ⟨g, 0, none⟩).run Tryd.prog w = .ok (.agg #[a, b, c, d]) w := by
    have d0 := blk_cell hg 0
    have d1 := blk_cell hg 1
    have d2 := blk_cell hg 2
    have d3 := blk_cell hg 3
    go_simp
  show Result.andThen (.ok (⟨g, 0, none⟩ : Addr) w) _ = _
  simp only [Result.andThen, hl]
theorem below_set {B : Nat} {w W : World} {g : Nat} (h : Below B w W) (hg : B ≤ g) (i : Nat) (v : Value) : Below B w (W.setCell ⟨g, i, none⟩ v) := by
  refine ⟨h.os, h.tape, h.output, ?_, fun k hk => ?_⟩
  · show _ ≤ (W.heap.modify g _).size
    rw [Array.size_modify]
    exact h.size
  · rw [blk_setCell_other W ⟨g, i, none⟩ v k (by show k ≠ g; omega)]
    exact h.block k hk
set_option maxRecDepth 100000 in
theorem parse_nil (w : World) : Calls Tryd.prog 20 #[.string ⟨#[]⟩] w fun e w' => e = .returned (.tuple #[cNil, .int .i64 0, .int .i64 0]) ∧ Below w.heap.size w w' := by
  obtain ⟨K, hK⟩ := lines_nil
  have hmm := @run_makeMap Tryd.prog
  go_enter Tryd.func20, Tryd.ntmps20
  go_wp2_with fail
  refine (lex_Lines.calls K _ _ _ _ _ hK).mono ?_
  rintro e W1 ⟨v, rfl, hv, hb⟩
  obtain ⟨A, c, rfl⟩ := Kd.S_slice hv
  have hk0 : keyOf Tryd.prog 9 (.string ⟨#[114, 111, 117, 110, 100, 115]⟩) = some (.string [114, 111, 117, 110, 100, 115]) := keyOf_string_mk Tryd.underlying9 (by decide)
  have hk1 : keyOf Tryd.prog 9 (.string ⟨#[103, 114, 111, 119]⟩) = some (.string [103, 114, 111, 119]) := keyOf_string_mk Tryd.underlying9 (by decide)
  have hk2 : keyOf Tryd.prog 9 (.string ⟨#[99, 111, 115, 116]⟩) = some (.string [99, 111, 115, 116]) := keyOf_string_mk Tryd.underlying9 (by decide)
  obtain ⟨W2, hrun, hown, hgrow⟩ := (World.ownsMap_made (H := Unit) W1 Tryd.prog 9 (plainElem Tryd.prog 2)).update law9 Tryd.underlying71 (by decide) hk0 (plainElem_int Tryd.underlying2 (a := 1) (q := .i64) (by decide))
  go_wp2_with fail
  refine wp_loop_rounds 1 ?_
  rw [rounds_succ]
  go_wp2_with fail
  obtain ⟨Wx, hWx⟩ : ∃ Wx, Wx = (W2.alloc (.cells #[.map (some W1.heap.size), .slice none 0 0, .int .i64 (-1), .int .i64 (-1), .int .i64 0] 73)).alloc (.map #[] 0) := ⟨_, rfl⟩
  have hown3 := ((hown.alloc (.cells #[.map (some W1.heap.size), .slice none 0 0, .int .i64 (-1), .int .i64 (-1), .int .i64 0] 73)).alloc (.map #[] 0)).drew
  rw [← hWx] at hown3 ⊢
  have s0 : w.heap.size < (w.alloc (.cells #[.int .i64 0, .int .i64 0, .int .i64 0, .slice none 0 0] 51)).heap.size := by show w.heap.size < (w.heap.push _).size; simp
  have s1 : w.heap.size < W1.heap.size := Nat.lt_of_lt_of_le s0 hb.size
  have s2 : W1.heap.size < (W1.alloc (.map #[] 0)).heap.size := by show W1.heap.size < (W1.heap.push _).size; simp
  have s3 : (W1.alloc (.map #[] 0)).heap.size ≤ W2.heap.size := hgrow.size
  have r1 : W1.heap[w.heap.size]? = some (.cells #[.int .i64 0, .int .i64 0, .int .i64 0, .slice none 0 0] 51) := (hb.block _ s0).trans (blk_alloc_new w _)
  have r2 : W2.heap[w.heap.size]? = some (.cells #[.int .i64 0, .int .i64 0, .int .i64 0, .slice none 0 0] 51) := (hgrow.block _ (by omega) (by intro e; injection e; omega)).trans ((blk_alloc_lt W1 _ _ s1).trans r1)
  have s4 : W2.heap.size < (W2.alloc (.cells #[.map (some W1.heap.size), .slice none 0 0, .int .i64 (-1), .int .i64 (-1), .int .i64 0] 73)).heap.size := by show W2.heap.size < (W2.heap.push _).size; simp
  have hres : Wx.drew.heap[w.heap.size]? = some (.cells #[.int .i64 0, .int .i64 0, .int .i64 0, .slice none 0 0] 51) := by
    rw [hWx]
    exact (blk_alloc_lt _ _ _ (by omega)).trans ((blk_alloc_lt W2 _ _ (by omega)).trans r2)
  have hbx : Wx.drew.heap[W2.heap.size]? = some (.cells #[.map (some W1.heap.size), .slice none 0 0, .int .i64 (-1), .int .i64 (-1), .int .i64 0] 73) := by
    rw [hWx]
    exact (blk_alloc_lt _ _ _ s4).trans (blk_alloc_new W2 _)
  have b1 : Below w.heap.size w (w.alloc (.cells #[.int .i64 0, .int .i64 0, .int .i64 0, .slice none 0 0] 51)) := (Below.refl _ _).alloc (Nat.le_refl _) _
  have b2 : Below w.heap.size w W1 := below_then b1 (by omega) hb
  have b3 := b2.alloc b2.size (.map #[] 0)
  have b4 : Below w.heap.size w W2 := b3.grown hgrow b3.size (fun k hk => by cases hk; omega)
  have b5 := b4.alloc b4.size (.cells #[.map (some W1.heap.size), .slice none 0 0, .int .i64 (-1), .int .i64 (-1), .int .i64 0] 73)
  have b6 := b5.alloc b5.size (.map #[] 0)
  rw [← hWx] at b6
  have hB : Below w.heap.size w Wx.drew := ⟨b6.os, b6.tape, b6.output, b6.size, b6.block⟩
  clear b1 b2 b3 b4 b5 b6
  clear s0 s2 s3 s4 r1 r2 hgrow hb hv
  have c0 := blk_cell hbx 0
  have c1 := blk_cell hbx 1
  have l0 := look hown3 (s := kR) (by decide) (c := 1) (by rfl)
  have l1 := look hown3 (s := kG) (by decide) (c := 0) (by rfl)
  have l2 := look hown3 (s := kC) (by decide) (c := 0) (by rfl)
  clear hown hown3 hrun hmm hk0 hk1 hk2 hWx hbx
  refine wp_region_still_tail 20 (by kernel_rfl) (by kernel_rfl) ?_
  simp only [List.take_succ_cons, List.take_zero, List.drop_succ_cons, List.drop_zero]
  change wpStill _ _ Wx.drew (fun a' => wpList _ _ _ _ a' Wx.drew) _ _
  generalize Wx.drew = Wd at *
  repeat still_step
  refine wpStill_nil ?_
  have d0 := blk_cell hres 0
  have d1 := blk_cell hres 1
  have d2 := blk_cell hres 2
  have d3 := blk_cell hres 3
  have z0 := blk_frozen hres 0
  have z1 := blk_frozen hres 1
  have z2 := blk_frozen hres 2
  have z3 := blk_frozen hres 3
  go_wp2
  have hE := blk_set (blk_set (blk_set (blk_set hres 0 (.int .i64 1)) 1 (.int .i64 0)) 2 (.int .i64 0)) 3 (.slice none 0 0)
  refine bodyPost_ret (resC (g := w.heap.size) _ rfl hE) rfl ?_
  refine ⟨rfl, ?_⟩
  exact below_set (below_set (below_set (below_set hB (Nat.le_refl _) _ _) (Nat.le_refl _) _ _) (Nat.le_refl _) _ _) (Nat.le_refl _) _ _
end Go.Proofs.YtggibjbcbicpjaaDoor.Conf
