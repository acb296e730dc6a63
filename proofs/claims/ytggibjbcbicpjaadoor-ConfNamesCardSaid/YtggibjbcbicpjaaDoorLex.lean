/- lex.Show, lex.Num, lex.Ref: what they answer. -/
import Derived.Test.YtggibjbcbicpjaaDoorStr
import Derived.Test.YtggibjbcbicpjaaDoorNumP
import Derived.WalkKit
import Derived.BigCall
import Derived.Below
namespace Go.Proofs.YtggibjbcbicpjaaDoor.Num
open Go Go.RowKit
set_option linter.unusedVariables false
set_option linter.unusedSimpArgs false
theorem grow_below (w : World) (k : Nat) (os : Array Obj) : Below w.heap.size w (Sort.grow (w.drewN k) os) := by
  refine ⟨rfl, rfl, rfl, ?_, fun j hj => ?_⟩
  · show w.heap.size ≤ (w.heap ++ os).size
    simp
  · show (w.heap ++ os)[j]? = w.heap[j]?
    rw [Array.getElem?_append_left hj]
/-- What the library's variables hold. -/
structure LaidW (w : World) : Prop where
  tab : Lib.TabIs Tryd.prog w "internal/strconv.uint64pow10" .u64 Lib.pow10Tab
  syn : ∃ te pe, w.cell? ⟨0, 0, none⟩ = some (.iface te pe)
  rng : ∃ te pe, w.cell? ⟨1, 0, none⟩ = some (.iface te pe)
  big : 5 ≤ w.heap.size
theorem LaidW.below {w w' : World} {B : Nat} (h : LaidW w) (hB : 5 ≤ B) (b : Below B w w') : LaidW w' := by
  obtain ⟨h1, ⟨t2, p2, h2⟩, ⟨t3, p3, h3⟩, h4⟩ := h
  refine ⟨?_, ⟨t2, p2, ?_⟩, ⟨t3, p3, ?_⟩, Nat.le_trans h4 b.size⟩
  · unfold Lib.TabIs World.var? at *
    have hg : Tryd.prog.globalNamed "internal/strconv.uint64pow10" = some 2 := by kernel_rfl
    rw [hg] at h1 ⊢
    simp only [Option.bind_some] at h1 ⊢
    rw [b.block 2 (by omega)]
    exact h1
  · rw [← h2]; exact b.cell (show 0 < B by omega)
  · rw [← h3]; exact b.cell (show 1 < B by omega)
theorem below_two {a b c : World} (h : Below a.heap.size a b) (g : Below b.heap.size b c) : Below a.heap.size a c :=
  ⟨g.os.trans h.os, g.tape.trans h.tape, g.output.trans h.output, Nat.le_trans h.size g.size, fun k hk => (g.block k (Nat.lt_of_lt_of_le hk h.size)).trans (h.block k hk)⟩
theorem show_ok (n : Int) (h0 : -9223372036854775808 ≤ n) (h1 : n ≤ 9223372036854775807) (w : World) (hL : LaidW w) :
    Calls Tryd.prog 16 #[.int .i64 n] w fun e w' => e = .returned (.string ⟨(Lib.itoa n).toArray⟩) ∧ Below w.heap.size w w' := by
  have hT := hL.tab
  go_enter Tryd.func16, Tryd.ntmps16
  go_wp2_with (go_at_call 30; refine (Tryd.formatInt_ok n h0 h1 _ hT).mono ?_; rintro e w' ⟨rfl, k, os, rfl⟩)
  go_ret
  exact ⟨rfl, grow_below _ _ _⟩
theorem str_eq (l : List UInt8) (s : ByteArray) : ((⟨l.toArray⟩ : ByteArray).toList == s.toList) = decide (l = s.data.toList) := by
  rw [ByteArray.toList_eq, ByteArray.toList_eq]
  by_cases h : l = s.data.toList
  · subst h; simp
  · rw [decide_eq_false h]
    simpa using h
set_option maxRecDepth 100000 in
theorem num_ok (s : ByteArray) (hs : s.size ≤ 281474976710656) (w : World) (hL : LaidW w) :
    Calls Tryd.prog 12 #[.string s] w fun e w' => e = .returned (.tuple #[.int .i64 (numL s.data.toList).1, .bool (numL s.data.toList).2]) ∧ Below w.heap.size w w' := by
  obtain ⟨ts, ps, hsyn⟩ := hL.syn
  obtain ⟨tr, pr, hrng⟩ := hL.rng
  have hbig := hL.big
  cases h : Lib.parseIntB 64 s.data.toList with
  | ok v =>
    have hb : -9223372036854775808 ≤ v ∧ v ≤ 9223372036854775807 := by
      have h2 := h
      rw [Lib.parseIntB_64] at h2
      exact Lib.atoiAll_bounds h2
    have hN : numL s.data.toList = if Lib.itoa v = s.data.toList then (v, true) else (0, false) := by unfold numL; rw [h]
    have key : ∀ W1, (W1 = w ∨ ∃ t, W1 = Lib.bytesWorld w 5 t) → Below w.heap.size w W1 := fun W1 hw => by
      rcases hw with rfl | ⟨t, rfl⟩
      · exact Below.refl _ _
      · exact Lib.bytesWorld_below _ _ _
    rw [hN]
    have he := str_eq (Lib.itoa v) s
    go_enter Tryd.func12, Tryd.ntmps12
    go_wp2_with (first
      | (go_at_call 29; refine (Tryd.parseInt_ok s (by omega) v h _).mono ?_; rintro e W1 ⟨rfl, hw⟩)
      | (go_at_call 16; refine (show_ok v hb.1 hb.2 _ (hL.below hbig (key _ ‹_›))).mono ?_; rintro e W2 ⟨rfl, hb2⟩))
    all_goals first
      | (go_ret2; exact ⟨rfl, below_two (key _ hw) hb2⟩)
      | (exfalso; simp_all [ByteArray.toList_eq]; done)
  | range =>
    have hN : numL s.data.toList = (0, false) := by unfold numL; rw [h]
    rw [hN]
    go_enter Tryd.func12, Tryd.ntmps12
    go_wp2_with (go_at_call 29; refine (Tryd.parseInt_range s hs h _ _ hrng (Or.inr ⟨tr, pr, rfl⟩)).mono ?_; rintro e W1 ⟨N, n, t, rfl, hb⟩)
    all_goals (go_ret2; exact ⟨rfl, hb⟩)
  | _ =>
    have hN : numL s.data.toList = (0, false) := by unfold numL; rw [h]
    rw [hN]
    go_enter Tryd.func12, Tryd.ntmps12
    go_wp2_with (go_at_call 29; refine (Tryd.parseInt_bad s hs (by rw [h]; intro v hv; cases hv) (by rw [h]; intro hv; cases hv) _ _ hsyn (Or.inr ⟨ts, ps, rfl⟩)).mono ?_; rintro e W1 ⟨N, t, rfl, hb⟩)
    all_goals (go_ret2; exact ⟨rfl, hb⟩)
end Go.Proofs.YtggibjbcbicpjaaDoor.Num
