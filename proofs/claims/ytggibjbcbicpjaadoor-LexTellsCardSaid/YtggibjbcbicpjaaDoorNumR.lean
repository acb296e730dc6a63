/- plnref1.Num, Ref and Show answer what lex.Num, Ref and Show do. -/
import Derived.Test.YtggibjbcbicpjaaDoorRef
import Derived.Test.YtggibjbcbicpjaaDoorQLexTellsx7
import Derived.Test.YtggibjbcbicpjaaDoorQLexTellsx8
import Derived.IntWalk
namespace Go.Proofs.YtggibjbcbicpjaaDoor.NumR
open Go Go.Lib Go.RowKit Go.Proofs.YtggibjbcbicpjaaDoor.QLexTells Go.Proofs.YtggibjbcbicpjaaDoor.Num Go.Proofs.YtggibjbcbicpjaaDoorW.PrintWords
set_option linter.unusedVariables false
def vl (s : ByteArray) (p : Nat) : Nat → Nat
  | 0 => 0
  | j + 1 => 10 * vl s p j + (bt s ((p + j : Nat) : Int) - 48).toNat
def D (s : ByteArray) (p j : Nat) : Prop := ∀ t, t < j → 48 ≤ bt s ((p + t : Nat) : Int) ∧ bt s ((p + t : Nat) : Int) ≤ 57
def dl (s : ByteArray) (p j : Nat) : List UInt8 := (List.range j).map fun t => UInt8.ofNat (bt s ((p + t : Nat) : Int)).toNat
theorem dl_succ (s : ByteArray) (p j : Nat) : dl s p (j + 1) = dl s p j ++ [UInt8.ofNat (bt s ((p + j : Nat) : Int)).toNat] := by
  unfold dl
  rw [List.range_succ, List.map_append]
  rfl
theorem D.less {s : ByteArray} {p j : Nat} (h : D s p (j + 1)) : D s p j := fun t ht => h t (by omega)
theorem vl_lt {s : ByteArray} {p : Nat} : ∀ {j : Nat}, D s p j → vl s p j < 10 ^ j
  | 0, _ => by simp [vl]
  | j + 1, h => by
    have ih := vl_lt h.less
    have := h j (by omega)
    rw [vl, Nat.pow_succ]
    omega
theorem dec_vl (s : ByteArray) (p : Nat) : ∀ j, D s p (j + 1) → (bt s ((p : Nat) : Int) ≠ 48 ∨ j = 0) → decDigits (vl s p (j + 1)) = dl s p (j + 1) ∧ (bt s ((p : Nat) : Int) ≠ 48 → 1 ≤ vl s p (j + 1))
  | 0, h, _ => by
    have h0 := h 0 (by omega)
    have e : vl s p 1 = (bt s ((p : Nat) : Int) - 48).toNat := by simp [vl]
    rw [Nat.add_zero] at h0
    refine ⟨?_, fun hz => by rw [e]; omega⟩
    rw [e, decDigits, dif_pos (by omega)]
    have e2 : 48 + (bt s ((p : Nat) : Int) - 48).toNat = (bt s ((p : Nat) : Int)).toNat := by omega
    rw [e2]
    rfl
  | j + 1, h, hz => by
    have hz1 : bt s ((p : Nat) : Int) ≠ 48 := by
      rcases hz with h | h
      · exact h
      · omega
    obtain ⟨ih, ih1⟩ := dec_vl s p j h.less (.inl hz1)
    have ih1 := ih1 hz1
    have hj := h (j + 1) (by omega)
    refine ⟨?_, fun _ => by rw [vl]; omega⟩
    rw [vl, decDigits, dif_neg (by omega), dl_succ]
    have e1 : (10 * vl s p (j + 1) + (bt s ((p + (j + 1) : Nat) : Int) - 48).toNat) / 10 = vl s p (j + 1) := by omega
    have e2 : 48 + (10 * vl s p (j + 1) + (bt s ((p + (j + 1) : Nat) : Int) - 48).toNat) % 10 = (bt s ((p + (j + 1) : Nat) : Int)).toNat := by omega
    rw [e1, e2, ih]
theorem bt_get (s : ByteArray) (i : Nat) (h : i < s.size) : UInt8.ofNat (bt s ((i : Nat) : Int)).toNat = s.data.toList[i]'(by rw [Array.length_toList]; exact h) := by
  have e : s[i] = s.data.toList[i]'(by rw [Array.length_toList]; exact h) := rfl
  rw [← e]
  unfold bt
  rw [dif_pos (by simpa using h)]
  simp
theorem dl_all (s : ByteArray) (p : Nat) : dl s p (s.size - p) = s.data.toList.drop p := by
  have el : s.data.toList.length = s.size := by rw [Array.length_toList]; rfl
  refine List.ext_getElem (by simp [dl]) fun t h1 h2 => ?_
  rw [List.length_drop, el] at h2
  rw [List.getElem_drop, ← bt_get s (p + t) (by omega)]
  simp [dl]
def vL (l : List UInt8) : Nat := l.foldl (fun a c => 10 * a + (c.toNat - 48)) 0
theorem vL_snoc (l : List UInt8) (c : UInt8) : vL (l ++ [c]) = 10 * vL l + (c.toNat - 48) := by
  unfold vL
  rw [List.foldl_append]
  rfl
theorem vl_vL (s : ByteArray) (p : Nat) : ∀ j, vl s p j = vL (dl s p j)
  | 0 => rfl
  | j + 1 => by
    rw [dl_succ, vL_snoc, vl, vl_vL s p j]
    have := bt_range s ((p + j : Nat) : Int)
    rw [UInt8.toNat_ofNat']
    omega
theorem vL_dec (u : Nat) : vL (decDigits u) = u := by
  induction u using Nat.strongRecOn with
  | ind u ih =>
    rw [decDigits]
    split
    · rename_i h
      show 10 * 0 + ((UInt8.ofNat (48 + u)).toNat - 48) = u
      rw [dig_val h]; omega
    · rename_i h
      rw [vL_snoc, ih _ (by omega), dig_val (by omega)]
      omega
theorem dec_all (u : Nat) : ∀ c ∈ decDigits u, 48 ≤ c.toNat ∧ c.toNat ≤ 57 := by
  induction u using Nat.strongRecOn with
  | ind u ih =>
    rw [decDigits]
    split
    · rename_i h
      intro c hc
      rw [List.mem_singleton] at hc
      rw [hc, dig_val h]; omega
    · rename_i h
      intro c hc
      rcases List.mem_append.1 hc with hc | hc
      · exact ih _ (by omega) c hc
      · rw [List.mem_singleton] at hc
        rw [hc, dig_val (by omega)]; omega
theorem nDigits_le (k u : Nat) (h : u < 10 ^ (k + 1)) : nDigits u ≤ k + 1 := by
  induction k generalizing u with
  | zero => rw [nDigits_small (by simpa using h)]; omega
  | succ k ih =>
    by_cases h9 : u < 10
    · rw [nDigits_small h9]; omega
    · rw [nDigits_big h9]
      have := ih (u / 10) (by rw [Nat.pow_succ] at h; omega)
      omega
def sg (b : Bool) (v : Nat) : Int := if b = true then -(v : Int) else v
def lim (b : Bool) : Nat := if b = true then 9223372036854775809 else 9223372036854775808
def ng (s : ByteArray) : Bool := decide (0 < s.size) && (bt s 0 == 45)
def pl (b : Bool) : Nat := if b = true then 1 else 0
def okP (s : ByteArray) (b : Bool) (p : Nat) : Prop :=
  1 ≤ s.size - p ∧ s.size - p ≤ 19 ∧ ¬ (bt s ((p : Nat) : Int) = 48 ∧ (b = true ∨ 1 < s.size)) ∧ D s p (s.size - p) ∧ vl s p (s.size - p) < lim b
theorem ng_head {s : ByteArray} (h : ng s = true) : s.data.toList = 45 :: s.data.toList.drop 1 ∧ 0 < s.size := by
  unfold ng at h
  rw [Bool.and_eq_true, decide_eq_true_eq, beq_iff_eq] at h
  obtain ⟨h0, h1⟩ := h
  have el : s.data.toList.length = s.size := by rw [Array.length_toList]; rfl
  have e := bt_get s 0 h0
  rw [show bt s ((0 : Nat) : Int) = 45 from h1] at e
  refine ⟨?_, h0⟩
  cases hl : s.data.toList with
  | nil => rw [hl] at el; simp at el; omega
  | cons c r =>
    simp only [hl, List.getElem_cons_zero] at e
    rw [← e]
    rfl
theorem ok_itoa {s : ByteArray} (h : okP s (ng s) (pl (ng s))) : itoa (sg (ng s) (vl s (pl (ng s)) (s.size - pl (ng s)))) = s.data.toList ∧ -9223372036854775808 ≤ sg (ng s) (vl s (pl (ng s)) (s.size - pl (ng s))) ∧ sg (ng s) (vl s (pl (ng s)) (s.size - pl (ng s))) ≤ 9223372036854775807 := by
  obtain ⟨h1, h2, h3, h4, h5⟩ := h
  cases hb : ng s with
  | true =>
    rw [hb] at h1 h2 h3 h4 h5
    have e1 : pl true = 1 := rfl
    have e2 : lim true = 9223372036854775809 := rfl
    rw [e1] at h1 h2 h3 h4 h5 ⊢
    rw [e2] at h5
    obtain ⟨m, hm⟩ : ∃ m, s.size - 1 = m + 1 := ⟨s.size - 2, by omega⟩
    rw [hm] at h4 h5 ⊢
    have hz : bt s ((1 : Nat) : Int) ≠ 48 := fun e => h3 ⟨e, .inl rfl⟩
    obtain ⟨g1, g2⟩ := dec_vl s 1 m h4 (.inl hz)
    have g2 := g2 hz
    obtain ⟨q, _⟩ := ng_head hb
    have e3 : sg true (vl s 1 (m + 1)) = -((vl s 1 (m + 1) : Nat) : Int) := rfl
    rw [e3]
    refine ⟨?_, by omega, by omega⟩
    rw [itoa_neg _ g2, g1, ← hm, dl_all, ← q]
  | false =>
    rw [hb] at h1 h2 h3 h4 h5
    have e1 : pl false = 0 := rfl
    have e2 : lim false = 9223372036854775808 := rfl
    rw [e1] at h1 h2 h3 h4 h5 ⊢
    rw [e2] at h5
    obtain ⟨m, hm⟩ : ∃ m, s.size - 0 = m + 1 := ⟨s.size - 1, by omega⟩
    rw [hm] at h4 h5 ⊢
    have hz : bt s ((0 : Nat) : Int) ≠ 48 ∨ m = 0 := by
      by_cases e : bt s ((0 : Nat) : Int) = 48
      · right
        by_cases hm0 : m = 0
        · exact hm0
        · exact absurd ⟨e, .inr (by omega)⟩ h3
      · exact .inl e
    obtain ⟨g1, _⟩ := dec_vl s 0 m h4 hz
    have e3 : sg false (vl s 0 (m + 1)) = ((vl s 0 (m + 1) : Nat) : Int) := rfl
    rw [e3]
    refine ⟨?_, by omega, by omega⟩
    rw [itoa_nonneg, g1, ← hm, dl_all, List.drop_zero]
theorem of_dec {s : ByteArray} {p u : Nat} (h : s.data.toList.drop p = decDigits u) (hu : u < 10000000000000000000) :
    1 ≤ s.size - p ∧ s.size - p ≤ 19 ∧ D s p (s.size - p) ∧ vl s p (s.size - p) = u ∧ (bt s ((p : Nat) : Int) = 48 → u = 0 ∧ s.size - p = 1) := by
  have el : s.data.toList.length = s.size := by rw [Array.length_toList]; rfl
  have hl := congrArg List.length h
  rw [List.length_drop, el, decDigits_length] at hl
  have h1 := nDigits_pos u
  have h2 := nDigits_le 18 u (by simpa using hu)
  have hd := dl_all s p
  rw [h] at hd
  refine ⟨by omega, by omega, fun t ht => ?_, ?_, fun hz => ?_⟩
  · have hm : UInt8.ofNat (bt s ((p + t : Nat) : Int)).toNat ∈ decDigits u := by
      rw [← hd]
      exact List.mem_map.2 ⟨t, List.mem_range.2 ht, rfl⟩
    have := dec_all u _ hm
    have hr := bt_range s ((p + t : Nat) : Int)
    rw [UInt8.toNat_ofNat'] at this
    omega
  · rw [vl_vL, hd, vL_dec]
  · obtain ⟨c, r, e, _, _, g⟩ := dec_head u
    have e0 : (dl s p (s.size - p))[0]? = some (UInt8.ofNat (bt s ((p : Nat) : Int)).toNat) := by
      unfold dl
      rw [List.getElem?_map, List.getElem?_range (by omega)]
      rfl
    rw [hd, e, hz] at e0
    have e1 : c = UInt8.ofNat (48 : Int).toNat := by simpa using e0
    obtain ⟨g1, g2⟩ := g (by rw [e1]; rfl)
    refine ⟨g1, ?_⟩
    have := congrArg List.length e
    rw [g2, decDigits_length] at this
    simp at this
    omega
theorem itoa_ok {s : ByteArray} {v : Int} (h0 : -9223372036854775808 ≤ v) (h1 : v ≤ 9223372036854775807) (h : itoa v = s.data.toList) : okP s (ng s) (pl (ng s)) := by
  have el : s.data.toList.length = s.size := by rw [Array.length_toList]; rfl
  by_cases hv : v < 0
  · obtain ⟨u, rfl⟩ : ∃ u : Nat, v = -(u : Int) := ⟨v.natAbs, by omega⟩
    rw [itoa_neg u (by omega)] at h
    have hsz : 0 < s.size := by rw [← el, ← h]; simp
    have hb0 := bt_get s 0 hsz
    simp only [← h, List.getElem_cons_zero] at hb0
    have hr := bt_range s ((0 : Nat) : Int)
    have hb : bt s 0 = 45 := by
      have := congrArg UInt8.toNat hb0
      rw [UInt8.toNat_ofNat'] at this
      have e45 : (45 : UInt8).toNat = 45 := rfl
      rw [e45] at this
      have e0 : bt s ((0 : Nat) : Int) = bt s 0 := rfl
      omega
    have hn : ng s = true := by
      unfold ng
      rw [decide_eq_true hsz, hb]
      rfl
    have hd : s.data.toList.drop 1 = decDigits u := by rw [← h]; rfl
    obtain ⟨g1, g2, g3, g4, g5⟩ := of_dec hd (by omega)
    rw [hn]
    refine ⟨g1, g2, fun ⟨e, _⟩ => ?_, g3, ?_⟩
    · have := (g5 e).1; omega
    · have e1 : pl true = 1 := rfl
      have e2 : lim true = 9223372036854775809 := rfl
      rw [e1, e2, g4]
      omega
  · obtain ⟨u, rfl⟩ : ∃ u : Nat, v = u := ⟨v.toNat, by omega⟩
    rw [itoa_nonneg] at h
    obtain ⟨c, r, e, q1, q2, _⟩ := dec_head u
    have hsz : 0 < s.size := by rw [← el, ← h, e]; simp
    have hb0 := bt_get s 0 hsz
    have hd : s.data.toList.drop 0 = decDigits u := by rw [List.drop_zero, h]
    obtain ⟨g1, g2, g3, g4, g5⟩ := of_dec hd (by omega)
    have hn : ng s = false := by
      have := g3 0 (by omega)
      have e0 : bt s ((0 + 0 : Nat) : Int) = bt s 0 := rfl
      rw [e0] at this
      unfold ng
      have : (bt s 0 == 45) = false := beq_eq_false_iff_ne.2 (by omega)
      rw [this, Bool.and_false]
    rw [hn]
    refine ⟨g1, g2, fun ⟨e, hs⟩ => ?_, g3, ?_⟩
    · rcases hs with hs | hs
      · cases hs
      · have := (g5 e).2; omega
    · have e1 : pl false = 0 := rfl
      have e2 : lim false = 9223372036854775808 := rfl
      rw [e1, e2, g4]
      omega
open Classical in
noncomputable def ans (s : ByteArray) (b : Bool) (p : Nat) : Int × Bool := if okP s b p then (sg b (vl s p (s.size - p)), true) else (0, false)
theorem numL_not {l : List UInt8} (h : (numL l).2 = false) : numL l = (0, false) := by
  unfold numL at h ⊢
  split at h
  · rename_i v e
    split at h
    · cases h
    · rename_i e2
      simp only [e, if_neg e2]
  · rfl
theorem num_is (s : ByteArray) : numL s.data.toList = ans s (ng s) (pl (ng s)) := by
  unfold ans
  by_cases h : okP s (ng s) (pl (ng s))
  · rw [if_pos h]
    obtain ⟨h1, h2, h3⟩ := ok_itoa h
    rw [← h1, numL_itoa _ h2 h3]
  · rw [if_neg h]
    apply numL_not
    cases e : (numL s.data.toList).2 with
    | false => rfl
    | true =>
      have hb := numL_bounds s.data.toList
      exact absurd (itoa_ok hb.1 hb.2 (numL_yes e)) h
theorem w64 {x : Int} (h : -9223372036854775808 ≤ x ∧ x ≤ 9223372036854775807) : wrap64 x = x := by unfold wrap64; omega
open Classical in
theorem l0_is (s : ByteArray) (b : Bool) (p n : Nat) (hn : s.size = p + n) (hp : p ≤ 1) (h19 : n ≤ 19) (h1 : 1 ≤ n) (hz : b = true → bt s ((p : Nat) : Int) ≠ 48) : ∀ d j, n - j = d → j ≤ n → D s p j →
    ∃ K, plnref1_Num.l0 K s b ((vl s p j : Nat) : Int) ((p + j : Nat) : Int) = some (if D s p n ∧ vl s p n < lim b then (sg b (vl s p n), true) else (0, false)) := by
  intro d
  induction d with
  | zero =>
    intro j hd hj hD
    obtain rfl : j = n := by omega
    refine ⟨1, ?_⟩
    rw [plnref1_Num.l0, if_neg (by omega)]
    obtain ⟨m, rfl⟩ : ∃ m, j = m + 1 := ⟨j - 1, by omega⟩
    have hlt := vl_lt hD
    have hlt2 : (10 : Nat) ^ (m + 1) ≤ 10 ^ 19 := Nat.pow_le_pow_right (by decide) h19
    have e19 : (10 : Nat) ^ 19 = 10000000000000000000 := by decide
    cases b with
    | true =>
      have g2 := (dec_vl s p m hD (.inl (hz rfl))).2 (hz rfl)
      have e2 : lim true = 9223372036854775809 := rfl
      have e3 : sg true (vl s p (m + 1)) = -((vl s p (m + 1) : Nat) : Int) := rfl
      rw [e2, e3, if_pos rfl]
      generalize vl s p (m + 1) = V at *
      by_cases hV : V < 9223372036854775809
      · rw [if_neg (by omega), if_pos ⟨hD, hV⟩, Go.IntWalk.u64_in _ (by omega), w64 (x := (V : Int) - 1) (by omega), w64 (by omega)]
        congr 2
        omega
      · rw [if_pos (by omega), if_neg (fun h => hV h.2)]
    | false =>
      have e2 : lim false = 9223372036854775808 := rfl
      have e3 : sg false (vl s p (m + 1)) = ((vl s p (m + 1) : Nat) : Int) := rfl
      rw [e2, e3, if_neg (by decide)]
      generalize vl s p (m + 1) = V at *
      by_cases hV : V < 9223372036854775808
      · rw [if_neg (by omega), if_pos ⟨hD, hV⟩, w64 (by omega)]
      · rw [if_pos (by omega), if_neg (fun h => hV h.2)]
  | succ d ih =>
    intro j hd hj hD
    by_cases hdj : 48 ≤ bt s ((p + j : Nat) : Int) ∧ bt s ((p + j : Nat) : Int) ≤ 57
    · have hD' : D s p (j + 1) := fun t ht => by
        by_cases e : t = j
        · subst e; exact hdj
        · exact hD t (by omega)
      obtain ⟨K, hK⟩ := ih (j + 1) (by omega) (by omega) hD'
      refine ⟨K + 1, ?_⟩
      have hlt := vl_lt hD
      have hlt2 : (10 : Nat) ^ j ≤ 10 ^ 18 := Nat.pow_le_pow_right (by decide) (by omega)
      have e18 : (10 : Nat) ^ 18 = 1000000000000000000 := by decide
      rw [plnref1_Num.l0, if_pos (by omega), if_pos (by omega), if_neg (by omega), if_neg (by omega)]
      have e1 : IntKind.u64.wrap (IntKind.u64.wrap (((vl s p j : Nat) : Int) * 10) + (bt s ((p + j : Nat) : Int) - 48) % 256) = ((vl s p (j + 1) : Nat) : Int) := by
        rw [Go.IntWalk.u64_in (((vl s p j : Nat) : Int) * 10) (by omega), Go.IntWalk.u64_in _ (by omega), vl]
        omega
      have e2 : wrap64 (((p + j : Nat) : Int) + 1) = ((p + (j + 1) : Nat) : Int) := by rw [w64 (by omega)]; omega
      rw [e1, e2]
      exact hK
    · refine ⟨1, ?_⟩
      rw [plnref1_Num.l0, if_pos (by omega), if_pos (by omega), if_neg (fun h : D s p n ∧ _ => hdj (h.1 j (by omega)))]
      by_cases c : bt s ((p + j : Nat) : Int) < 48
      · rw [if_pos c]
      · rw [if_neg c, if_pos (by omega)]
theorem j2_no (s : ByteArray) (b : Bool) (x : Int) : ∃ K, plnref1_Num.j2 K s x b true = some (0, false) := ⟨1, by rw [plnref1_Num.j2, if_pos rfl]⟩
theorem j1_is (s : ByteArray) (b : Bool) (p : Nat) (hp : p ≤ 1) (hps : p ≤ s.size) (hs : s.size ≤ 140737488351232) : ∃ K, plnref1_Num.j1 K s ((p : Nat) : Int) b = some (ans s b p) := by
  have ew : wrap64 ((s.size : Int) - ((p : Nat) : Int)) = ((s.size - p : Nat) : Int) := by rw [w64 (by omega)]; omega
  have no : ¬ okP s b p → (∃ K, plnref1_Num.j2 K s ((p : Nat) : Int) b true = some (ans s b p)) := fun h => by
    unfold ans
    rw [if_neg h]
    exact j2_no s b _
  by_cases h1 : ¬ 1 ≤ s.size - p
  · obtain ⟨K, h⟩ := no (fun h => h1 h.1)
    refine ⟨K + 1, ?_⟩
    rw [plnref1_Num.j1, ew, if_pos (by omega)]
    exact h
  replace h1 := Decidable.not_not.1 h1
  by_cases h2 : ¬ s.size - p ≤ 19
  · obtain ⟨K, h⟩ := no (fun h => h2 h.2.1)
    refine ⟨K + 1, ?_⟩
    rw [plnref1_Num.j1, ew, if_neg (by omega), if_pos (by omega)]
    exact h
  replace h2 := Decidable.not_not.1 h2
  have yes : ¬ (bt s ((p : Nat) : Int) = 48 ∧ (b = true ∨ 1 < s.size)) → ∃ K, plnref1_Num.j2 K s ((p : Nat) : Int) b false = some (ans s b p) := fun h3 => by
    obtain ⟨K, h⟩ := l0_is s b p (s.size - p) (by omega) hp h2 h1 (fun hb e => h3 ⟨e, .inl hb⟩) _ 0 rfl (Nat.zero_le _) (fun t ht => by omega)
    refine ⟨K + 1, ?_⟩
    rw [plnref1_Num.j2, if_neg (by decide)]
    refine Eq.trans h ?_
    unfold ans
    congr 1
    by_cases c : D s p (s.size - p) ∧ vl s p (s.size - p) < lim b
    · rw [if_pos c, if_pos ⟨h1, h2, h3, c.1, c.2⟩]
    · rw [if_neg c, if_neg (fun h => c ⟨h.2.2.2.1, h.2.2.2.2⟩)]
  by_cases c48 : bt s ((p : Nat) : Int) = 48
  · by_cases cb : b = true
    · obtain ⟨K, h⟩ := no (fun h => h.2.2.1 ⟨c48, .inl cb⟩)
      refine ⟨K + 1, ?_⟩
      rw [plnref1_Num.j1, ew, if_neg (by omega), if_neg (by omega), if_pos (by omega), if_pos (by omega), if_pos c48, if_pos cb]
      exact h
    · by_cases c1 : 1 < s.size
      · obtain ⟨K, h⟩ := no (fun h => h.2.2.1 ⟨c48, .inr c1⟩)
        refine ⟨K + 1, ?_⟩
        rw [plnref1_Num.j1, ew, if_neg (by omega), if_neg (by omega), if_pos (by omega), if_pos (by omega), if_pos c48, if_neg cb, decide_eq_true (by omega)]
        exact h
      · obtain ⟨K, h⟩ := yes (fun h => by rcases h.2 with h | h; exact cb h; exact c1 h)
        refine ⟨K + 1, ?_⟩
        rw [plnref1_Num.j1, ew, if_neg (by omega), if_neg (by omega), if_pos (by omega), if_pos (by omega), if_pos c48, if_neg cb, decide_eq_false (by omega)]
        exact h
  · obtain ⟨K, h⟩ := yes (fun h => c48 h.1)
    refine ⟨K + 1, ?_⟩
    rw [plnref1_Num.j1, ew, if_neg (by omega), if_neg (by omega), if_pos (by omega), if_pos (by omega), if_neg c48]
    exact h
theorem num_f (s : ByteArray) (hs : s.size ≤ 140737488351232) : ∃ K, plnref1_Num.f K s = some (numL s.data.toList) := by
  rw [num_is]
  unfold plnref1_Num.f
  by_cases h0 : 0 < s.size
  · have e : (bt s 0 == 45) = ng s := by unfold ng; rw [decide_eq_true h0, Bool.true_and]
    rw [e]
    simp only [if_pos (show (s.size : Int) > 0 by omega), if_pos (show 0 < (s.size : Int) by omega)]
    cases hb : ng s with
    | true =>
      obtain ⟨K, h⟩ := j1_is s true 1 (by omega) (by omega) hs
      refine ⟨K + 1, ?_⟩
      rw [plnref1_Num.j0, if_pos rfl]
      exact h
    | false =>
      obtain ⟨K, h⟩ := j1_is s false 0 (by omega) (by omega) hs
      refine ⟨K + 1, ?_⟩
      rw [plnref1_Num.j0, if_neg (by decide)]
      exact h
  · have e : ng s = false := by unfold ng; rw [decide_eq_false h0, Bool.false_and]
    rw [e]
    simp only [if_neg (show ¬ (s.size : Int) > 0 by omega)]
    obtain ⟨K, h⟩ := j1_is s false 0 (by omega) (by omega) hs
    refine ⟨K + 1, ?_⟩
    rw [plnref1_Num.j0, if_neg (by decide)]
    exact h
theorem bt0 {s : ByteArray} (h0 : 0 < s.size) : bt s 0 = (s[0].toNat : Int) := by
  unfold bt
  rw [dif_pos (by simpa using h0)]
  rfl
theorem refN_long {l : List UInt8} (h : 5 ≤ l.length) : refN (numL l) = (0, false) := by
  unfold refN
  refine if_neg fun ⟨h1, h2, h3⟩ => ?_
  have e := numL_yes h1
  generalize (numL l).1 = v at *
  obtain ⟨u, rfl⟩ : ∃ u : Nat, v = u := ⟨v.toNat, by omega⟩
  rw [itoa_nonneg] at e
  have := nDigits_le 3 u (by omega)
  rw [← e, decDigits_length] at h
  omega
theorem ref_f (s : ByteArray) (m : Int) (hs : s.size ≤ 140737488351232) : ∃ K, plnref1_Ref.f K s m = some (refL s.data.toList m) := by
  unfold plnref1_Ref.f
  by_cases h2 : s.size < 2
  · refine ⟨1, ?_⟩
    rw [if_pos (by omega), ref_short m h2, plnref1_Ref.j0, if_pos rfl]
  · have h0 : 0 < s.size := by omega
    have ex : (s.extract 1 s.size).size = s.size - 1 := by rw [ByteArray.size_extract]; omega
    rw [ref_long m (by omega) h0]
    by_cases h5 : s.size > 5
    · refine ⟨1, ?_⟩
      rw [if_neg (by omega), if_pos (by omega), plnref1_Ref.j0, if_pos rfl]
      have hl : 5 ≤ (s.extract 1 s.size).data.toList.length := by
        rw [Array.length_toList]
        show 5 ≤ (s.extract 1 s.size).size
        omega
      rw [refN_long hl, ite_self]
    · simp only [if_neg (show ¬ (s.size : Int) < 2 by omega), if_neg (show ¬ (s.size : Int) > 5 by omega), if_pos (show 0 < (s.size : Int) by omega), bt0 h0]
      by_cases hm : (s[0].toNat : Int) = m
      · rw [if_pos hm]
        obtain ⟨K, h⟩ := num_f (s.extract 1 s.size) (by omega)
        refine ⟨K + 1, ?_⟩
        have e : ((s[0].toNat : Int) != m) = false := bne_eq_false_iff_eq.mpr hm
        rw [e, plnref1_Ref.j0, if_neg (by decide), if_pos (by omega), h]
        generalize numL (s.extract 1 s.size).data.toList = X
        obtain ⟨x, q⟩ := X
        show (if q = true then (if x < 0 then some (0, false) else if x > 9999 then some (0, false) else some (x, true)) else some (0, false)) = some (refN (x, q))
        unfold refN
        dsimp only
        by_cases hq : q = true
        · rw [if_pos hq]
          by_cases hx : x < 0
          · rw [if_pos hx, if_neg (by omega)]
          · rw [if_neg hx]
            by_cases hx2 : x > 9999
            · rw [if_pos hx2, if_neg (by omega)]
            · rw [if_neg hx2, if_pos ⟨hq, by omega, by omega⟩]
        · rw [if_neg hq, if_neg (fun h => hq h.1)]
      · rw [if_neg hm]
        refine ⟨1, ?_⟩
        have e : ((s[0].toNat : Int) != m) = true := bne_iff_ne.mpr hm
        rw [e, plnref1_Ref.j0, if_pos rfl]
def nums (l : List UInt8) : List Int := l.map fun c => (c.toNat : Int)
theorem digits_l0 (u : Nat) : u < 18446744073709551616 → ∀ x : List Int, x.length + nDigits u ≤ 1000 → ∃ K, plnref1_digits.l0 K (u : Int) x = some (strOfNums (nums (decDigits u) ++ x)) := by
  induction u using Nat.strongRecOn with
  | ind u ih =>
    intro hu x hx
    have hnd := nDigits_pos u
    by_cases h9 : u < 10
    · refine ⟨1, ?_⟩
      rw [plnref1_digits.l0, if_neg (by omega), decDigits, dif_pos h9]
      have e : IntKind.u64.wrap (48 + (u : Int)) % 256 = ((48 + u : Nat) : Int) := by rw [Go.IntWalk.u64_in _ (by omega)]; omega
      rw [e]
      show (if _ then _ else _) = _
      rw [if_pos (by simp; omega)]
      unfold nums
      rw [List.map_singleton, dig_val h9]
    · rw [nDigits_big h9] at hx
      obtain ⟨K, h⟩ := ih (u / 10) (by omega) (by omega) ([((48 + u % 10 : Nat) : Int)] ++ x) (by simp; omega)
      refine ⟨K + 1, ?_⟩
      rw [plnref1_digits.l0, if_pos (by omega), decDigits, dif_neg h9]
      have e : IntKind.u64.wrap (48 + Int.tmod (u : Int) 10) % 256 = ((48 + u % 10 : Nat) : Int) := by
        rw [Int.tmod_eq_emod_of_nonneg (by omega), Go.IntWalk.u64_in _ (by omega)]; omega
      have e2 : IntKind.u64.wrap (Int.tdiv (u : Int) 10) = ((u / 10 : Nat) : Int) := by
        rw [Int.tdiv_eq_ediv_of_nonneg (by omega), Go.IntWalk.u64_in _ (by omega)]; omega
      rw [e, e2]
      show (if _ then _ else _) = _
      rw [if_pos (by simp; omega), h]
      unfold nums
      rw [List.map_append, List.map_singleton, dig_val (by omega), List.append_assoc]
theorem str_nums (l : List UInt8) : strOfNums (nums l) = ⟨l.toArray⟩ := by
  unfold strOfNums nums
  rw [List.map_map]
  have e : l.map ((fun n : Int => UInt8.ofNat n.toNat) ∘ fun c : UInt8 => (c.toNat : Int)) = l := by
    conv => rhs; rw [← List.map_id l]
    exact List.map_congr_left fun c _ => by simp
  rw [e]
theorem digits_f (u : Nat) (h : u < 18446744073709551616) : ∃ K, plnref1_digits.f K (u : Int) = some ⟨(decDigits u).toArray⟩ := by
  have := nDigits_le20 u h
  obtain ⟨K, hK⟩ := digits_l0 u h [] (by simp; omega)
  refine ⟨K, ?_⟩
  rw [List.append_nil, str_nums] at hK
  exact hK
theorem show_f (n : Int) (h0 : -9223372036854775808 ≤ n) (h1 : n ≤ 9223372036854775807) : ∃ K, plnref1_Show.f K n = some ⟨(itoa n).toArray⟩ := by
  unfold plnref1_Show.f
  by_cases hn : n ≥ 0
  · obtain ⟨u, rfl⟩ : ∃ u : Nat, n = u := ⟨n.toNat, by omega⟩
    obtain ⟨K, h⟩ := digits_f u (by omega)
    refine ⟨K, ?_⟩
    rw [if_pos hn, Go.IntWalk.u64_in _ (by omega), h, itoa_nonneg]
    rfl
  · obtain ⟨u, rfl⟩ : ∃ u : Nat, n = -(u : Int) := ⟨n.natAbs, by omega⟩
    obtain ⟨K, h⟩ := digits_f u (by omega)
    refine ⟨K, ?_⟩
    rw [if_neg hn, w64 (by omega), Go.IntWalk.u64_in (-1 - -(u : Int)) (by omega), Go.IntWalk.u64_in _ (by omega)]
    have e : -1 - -(u : Int) + 1 = u := by omega
    rw [e, h, itoa_neg u (by omega)]
    have hl : (⟨(decDigits u).toArray⟩ : ByteArray).size ≤ 20 := by
      have := nDigits_le20 u (by omega)
      rw [← decDigits_length] at this
      show (decDigits u).toArray.size ≤ 20
      simpa using this
    show (if _ then _ else _) = _
    rw [if_pos (by omega)]
    rfl
end Go.Proofs.YtggibjbcbicpjaaDoor.NumR
