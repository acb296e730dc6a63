/- plnlaw7.LexBack answers true. -/
import Derived.Test.YtggibjbcbicpjaaDoorRef
import Derived.Test.YtggibjbcbicpjaaDoorLexFirst
import Derived.Lib.ItoaLen
import Derived.IntWalk
namespace Go.Proofs.YtggibjbcbicpjaaDoor.Num
open Go Go.RowKit Go.Proofs.YtggibjbcbicpjaaDoorW.PrintWords
open Go.Proofs.YtggibjbcbicpjaaDoor.QLexWhere (plnlaw7_first.f plnlaw7_first.calls)
set_option linter.unusedVariables false
set_option linter.unusedSimpArgs false
theorem first_is : ∃ K, plnlaw7_first.f K = some true := ⟨80, by kernel_rfl⟩
theorem conv1 (c : Int) (W : World) : (convert 43 9 (.slice (some ⟨W.heap.size, 0, none⟩) 1 1)).run Tryd.prog (W.alloc (.cells #[.int .u8 c] 5 (0, 0))) = .ok (.string (strOfNums [c])) (W.alloc (.cells #[.int .u8 c] 5 (0, 0))) :=
  run_convert_bytes_arg _ 43 5 Tryd.underlying43 Tryd.underlying5 W.heap.size 0 1 1 [c] rfl (fun i hi => by
    obtain rfl : i = 0 := by omega
    exact blk_cell (blk_new W (.cells #[.int .u8 c] 5 (0, 0))) 0) 9 Tryd.underlying9
theorem itoa_size (n : Int) (h0 : -9223372036854775808 ≤ n) (h1 : n ≤ 9223372036854775807) : (⟨(Lib.itoa n).toArray⟩ : ByteArray).size ≤ 21 := by
  have := Lib.itoa_length_le n h0 h1
  show (Lib.itoa n).toArray.size ≤ 21
  simpa using this
theorem cut_k (k : Int) : ∃ j : Nat, (bits .and .i64 k 8191).tmod 10000 = j ∧ j ≤ 8191 := by
  have h : (BitVec.ofInt 64 k &&& BitVec.ofInt 64 8191).toNat ≤ 8191 := by
    rw [BitVec.toNat_and]
    exact Nat.and_le_right
  have e : bits .and .i64 k 8191 = ((BitVec.ofInt 64 k &&& BitVec.ofInt 64 8191).toNat : Int) := Go.IntWalk.i64_in ((BitVec.ofInt 64 k &&& BitVec.ofInt 64 8191).toNat : Int) (by omega)
  rw [e]
  exact ⟨(BitVec.ofInt 64 k &&& BitVec.ofInt 64 8191).toNat, by rw [Int.tmod_eq_emod_of_nonneg (by omega)]; omega, h⟩
theorem ref_pct (j : Nat) (hj : j ≤ 8191) (m : Int) : refL (37 :: Lib.itoa j) m = if (37 : Int) = m then ((j : Int), true) else (0, false) := by
  have h := numL_itoa j (by omega) (by omega)
  cases e : Lib.itoa (j : Int) with
  | nil => exact absurd e (itoa_ne _)
  | cons d r =>
    rw [e] at h
    show (if (37 : Int) = m then refN (numL (d :: r)) else (0, false)) = _
    rw [h]
    have : refN ((j : Int), true) = ((j : Int), true) := if_pos ⟨rfl, by show (0 : Int) ≤ j; omega, by show (j : Int) ≤ 9999; omega⟩
    rw [this]
set_option maxRecDepth 100000 in
theorem back_ok (n k c : Int) (h0 : -9223372036854775808 ≤ n) (h1 : n ≤ 9223372036854775807) (w : World) (hL : LaidW w) :
    Calls Tryd.prog 4 #[.int .i64 n, .int .i64 k, .int .u8 c] w fun e w' => e = .returned (.bool true) ∧ Below w.heap.size w w' := by
  obtain ⟨K, hK⟩ := first_is
  have hbig := hL.big
  have hS := itoa_size n h0 h1
  go_enter Tryd.func4, Tryd.ntmps4
  go_wp2_with (first
    | (go_at_call 9; refine (plnlaw7_first.calls K true _ hK).mono ?_; rintro e W1 ⟨rfl, hb1⟩)
    | (go_at_call 16; refine (show_ok n h0 h1 _ (hL.below hbig hb1)).mono ?_; rintro e W2 ⟨rfl, hb2⟩))
  have hL2 := (hL.below hbig (below_two hb1 hb2))
  refine (num_ok _ (by omega) _ hL2).mono ?_
  have e1 : numL (⟨(Lib.itoa n).toArray⟩ : ByteArray).data.toList = (n, true) := numL_itoa n h0 h1
  rw [e1]
  rintro e W3 ⟨rfl, hb3⟩
  have hL3 := hL2.below hL2.big hb3
  have hc := conv1 c W3
  generalize hSS : (⟨(Lib.itoa n).toArray⟩ : ByteArray) = S at *
  have hmx : IntKind.i64.max = 9223372036854775807 := rfl
  have hs1 : (strOfNums [c]).size = 1 := rfl
  have hs2 : (⟨#[48]⟩ : ByteArray).size = 1 := rfl
  have hba : Below W3.heap.size W3 (W3.alloc (.cells #[.int .u8 c] 5 (0, 0))) := below_alloc (Below.refl _ _) _
  have hLa := hL3.below hL3.big hba
  go_wp2_with fail
  refine (num_ok _ (by rw [ByteArray.size_append]; omega) _ hLa).mono ?_
  rintro e W4 ⟨rfl, hb4⟩
  have hL4 := hLa.below hLa.big hb4
  generalize hX : numL (S ++ strOfNums [c]).data.toList = X
  obtain ⟨x, q⟩ := X
  have hq : ¬ (q = true ∧ x = n) := by
    have e2 : (S ++ strOfNums [c]).data.toList = Lib.itoa n ++ [UInt8.ofNat c.toNat] := by rw [← hSS]; simp [strOfNums, ByteArray.data_append]
    rw [e2] at hX
    have := numL_more n (UInt8.ofNat c.toNat)
    rw [hX] at this
    exact this
  clear hc
  have hb34 := below_two hba hb4
  clear hb4 hLa hba hX
  go_wp2_with fail
  refine (num_ok _ (by rw [ByteArray.size_append]; omega) _ hL4).mono ?_
  rintro e W5 ⟨rfl, hb5⟩
  have hL5 := hL4.below hL4.big hb5
  generalize hX : numL ((⟨#[48]⟩ : ByteArray) ++ S).data.toList = X
  obtain ⟨x2, q2⟩ := X
  have hq2 : q2 = false := by
    have e2 : ((⟨#[48]⟩ : ByteArray) ++ S).data.toList = 48 :: Lib.itoa n := by rw [← hSS]; simp [ByteArray.data_append]
    rw [e2] at hX
    have := numL_zero n
    rw [hX] at this
    exact this
  subst hq2
  clear hX
  obtain ⟨j, hj, hjl⟩ := cut_k k
  go_wp2_with fail
  refine (show_ok j (by omega) (by omega) _ hL5).mono ?_
  rintro e W6 ⟨rfl, hb6⟩
  have hL6 := hL5.below hL5.big hb6
  have hT := itoa_size j (by omega) (by omega)
  have hs3 : (⟨#[37]⟩ : ByteArray).size = 1 := rfl
  have hr : ∀ m, refL ((⟨#[37]⟩ : ByteArray) ++ (⟨(Lib.itoa j).toArray⟩ : ByteArray)).data.toList m = if (37 : Int) = m then ((j : Int), true) else (0, false) := fun m => by
    have e2 : ((⟨#[37]⟩ : ByteArray) ++ (⟨(Lib.itoa j).toArray⟩ : ByteArray)).data.toList = 37 :: Lib.itoa j := by simp [ByteArray.data_append]
    rw [e2]
    exact ref_pct j hjl m
  generalize hTT : (⟨(Lib.itoa j).toArray⟩ : ByteArray) = T at *
  go_wp2_with fail
  refine (ref_ok _ _ (by rw [ByteArray.size_append]; omega) _ hL6).mono ?_
  rw [hr, if_pos rfl]
  rintro e W7 ⟨rfl, hb7⟩
  have hL7 := hL6.below hL6.big hb7
  go_wp2_with fail
  refine (show_ok j (by omega) (by omega) _ hL7).mono ?_
  rw [hTT]
  rintro e W8 ⟨rfl, hb8⟩
  have hL8 := hL7.below hL7.big hb8
  go_wp2_with fail
  refine (ref_ok _ _ (by rw [ByteArray.size_append]; omega) _ hL8).mono ?_
  rw [hr, if_neg (by decide)]
  rintro e W9 ⟨rfl, hb9⟩
  have hB := below_two (below_two (below_two (below_two (below_two (below_two (below_two (below_two hb1 hb2) hb3) hb34) hb5) hb6) hb7) hb8) hb9
  go_wp2_with fail
  all_goals first
    | (go_ret; exact ⟨rfl, hB⟩)
    | (have hn : (x == n) = false := beq_eq_false_iff_ne.2 (fun h => hq ⟨‹q = true›, h⟩)
       go_ret
       refine ⟨?_, hB⟩
       show Ending.returned (.bool (!(x == n))) = _
       rw [hn]
       rfl)
    | (exfalso; exact hq ⟨‹q = true›, ‹x = n›⟩)
    | (exfalso; simp_all; done)
end Go.Proofs.YtggibjbcbicpjaaDoor.Num
