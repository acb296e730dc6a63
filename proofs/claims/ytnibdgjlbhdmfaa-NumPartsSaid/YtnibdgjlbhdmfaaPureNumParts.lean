/- It proves, for every two 64-bit numbers, that a number is the other one times Div and Rem, that Rem is nearer to 0 and on the number's side, and that dividing by 0 traps. No condition. -/
import Derived.Test.YtnibdgjlbhdmfaaPNumPartsx2
import Derived.Laws.BitsLemmas
namespace Go.Proofs.Ytnibdgjlbhdmfaa.Pure
open Go.RowKit Go.Proofs.Ytnibdgjlbhdmfaa.PNumParts Go.Proofs.YtnibdgjlbhdmfaaW.PrintWords Go.Proofs.YtnibdgjlbhdmfaaW.PrintLast Go.Proofs.YtnibdgjlbhdmfaaW.PrintMore
namespace NumPartsAid
theorem wf64 {a : Int} (h : (Lit.int .i64 a).wf = true) : -9223372036854775808 ≤ a ∧ a ≤ 9223372036854775807 := by
  simp [Lit.wf, IntKind.min, IntKind.max, IntKind.signed, IntKind.bits] at h
  omega

theorem w_ex (n : Int) : ∃ q, wrap64 n = n - 18446744073709551616 * q := ⟨(n + 9223372036854775808) / 18446744073709551616, by unfold wrap64; omega⟩
theorem w_per (n q : Int) : wrap64 (n - 18446744073709551616 * q) = wrap64 n := by unfold wrap64; omega
theorem w_self {a : Int} (h : -9223372036854775808 ≤ a ∧ a ≤ 9223372036854775807) : wrap64 a = a := by unfold wrap64; omega

theorem bit_t : num_bit.f true = some 1 := rfl
theorem bit_f : num_bit.f false = some 0 := rfl
theorem do_add (k : Nat) (a b : Int) : num_Do.f k 4 a b = some (wrap64 (a + b), 0) := by simp [num_Do.f]
theorem do_sub (k : Nat) (a b : Int) : num_Do.f k 5 a b = some (wrap64 (a - b), 0) := by simp [num_Do.f]
theorem do_mul (k : Nat) (a b : Int) : num_Do.f k 6 a b = some (wrap64 (a * b), 0) := by simp [num_Do.f]
theorem do_div (k : Nat) (a b : Int) (h : b ≠ 0) : num_Do.f (k + 1) 7 a b = some (wrap64 (Int.tdiv a b), 0) := by simp [num_Do.f, num_Do.j0, h]
theorem do_div0 (k : Nat) (a : Int) : num_Do.f (k + 1) 7 a 0 = some (0, 1) := by simp [num_Do.f, num_Do.j0]
theorem do_rem (k : Nat) (a b : Int) (h : b ≠ 0) : num_Do.f (k + 1) 8 a b = some (Int.tmod a b, 0) := by simp [num_Do.f, num_Do.j0, h]
theorem do_rem0 (k : Nat) (a : Int) : num_Do.f (k + 1) 8 a 0 = some (0, 1) := by simp [num_Do.f, num_Do.j0]
theorem do_and (k : Nat) (a b : Int) : num_Do.f (k + 1) 9 a b = some (Go.bits .and .i64 a b, 0) := by simp [num_Do.f, num_Do.j0]
theorem do_or (k : Nat) (a b : Int) : num_Do.f (k + 1) 10 a b = some (Go.bits .or .i64 a b, 0) := by simp [num_Do.f, num_Do.j0]
theorem do_xor (k : Nat) (a b : Int) : num_Do.f (k + 1) 11 a b = some (Go.bits .xor .i64 a b, 0) := by simp [num_Do.f, num_Do.j0]
theorem do_eq (k : Nat) (a b : Int) : num_Do.f (k + 1) 14 a b = some (if a = b then 1 else 0, 0) := by
  by_cases h : a = b <;> simp [num_Do.f, num_Do.j0, num_bit.f, h]
theorem do_lt (k : Nat) (a b : Int) : num_Do.f (k + 1) 15 a b = some (if a < b then 1 else 0, 0) := by
  by_cases h : a < b <;> simp [num_Do.f, num_Do.j0, num_bit.f, h]
theorem do_not (k : Nat) (a b : Int) : num_Do.f (k + 1) 16 a b = some (if a = 0 then 1 else 0, 0) := by
  by_cases h : a = 0 <;> simp [num_Do.f, num_Do.j0, num_bit.f, h]
theorem first_true (k : Nat) : plnlaw1_first.f (k + 1) = some true := by
  unfold plnlaw1_first.f
  rw [do_div _ _ _ (by decide), do_rem0]
  decide +kernel

theorem tmod_parts (a b : Int) (hb : b ≠ 0) : (Int.tmod a b = 0 ∨ (Int.tmod a b < 0 ↔ a < 0)) ∧ (0 < b → Int.tmod a b < b ∧ - Int.tmod a b < b) ∧ (b < 0 → b < Int.tmod a b ∧ b < - Int.tmod a b) := by
  rcases Int.lt_or_le a 0 with h | h
  · have e : Int.tmod a b = - ((-a) % b) := by
      rw [← Int.tmod_eq_emod_of_nonneg (by omega), Int.neg_tmod]; omega
    have h1 := Int.emod_nonneg (-a) hb
    have h2 := Int.emod_lt (-a) hb
    rw [e]
    omega
  · have e : Int.tmod a b = a % b := Int.tmod_eq_emod_of_nonneg h
    have h1 := Int.emod_nonneg a hb
    have h2 := Int.emod_lt a hb
    rw [e]
    omega
end NumPartsAid
open NumPartsAid

theorem NumParts : plnlaw1_NumParts.Pure := by
  intro a b ha hb
  have ha := wf64 ha
  have hb := wf64 hb
  refine ⟨1, ?_⟩
  unfold plnlaw1_NumParts.f
  rw [first_true 0]
  simp only [Option.bind_some, if_true]
  by_cases h0 : b = 0
  · subst h0
    rw [do_div0, do_rem0]
    simp
  · rw [do_div _ _ _ h0, do_rem _ _ _ h0]
    simp only [Option.bind_some, do_mul, do_add]
    rw [if_neg h0, if_pos trivial, if_pos trivial]
    have e1 : wrap64 (wrap64 (wrap64 (Int.tdiv a b) * b) + Int.tmod a b) = a := by
      obtain ⟨q, hq⟩ := w_ex (Int.tdiv a b)
      obtain ⟨p, hp⟩ := w_ex (wrap64 (Int.tdiv a b) * b)
      rw [hp, hq, Int.sub_mul, show 18446744073709551616 * q * b = 18446744073709551616 * (q * b) from Int.mul_assoc _ _ _]
      have h := Int.mul_tdiv_add_tmod a b
      rw [Int.mul_comm] at h
      rw [show Int.tdiv a b * b - 18446744073709551616 * (q * b) - 18446744073709551616 * p + Int.tmod a b = (Int.tdiv a b * b + Int.tmod a b) - 18446744073709551616 * (q * b + p) by omega, w_per, h, w_self ha]
    rw [if_pos e1]
    obtain ⟨t1, t2, t3⟩ := tmod_parts a b h0
    generalize Int.tmod a b = r at *
    have fin : plnlaw1_NumParts.j0 1 b r false = some true := by
      simp only [plnlaw1_NumParts.j0]
      rw [if_neg (by simp)]
      by_cases hlt : b < 0
      · have := t3 hlt
        have hw : wrap64 (-r) = -r := w_self (by omega)
        rw [if_pos hlt, if_pos (by omega), hw]
        simp; omega
      · have := t2 (by omega)
        have hw : wrap64 (-r) = -r := w_self (by omega)
        rw [if_neg hlt, if_pos (by omega), hw]
        simp; omega
    by_cases hr : r = 0
    · rw [if_pos hr]; exact fin
    · rw [if_neg hr]
      have hs : (r < 0 ↔ a < 0) := by omega
      have : (decide (r < 0) != decide (a < 0)) = false := by simp [hs]
      rw [this]; exact fin

end Go.Proofs.Ytnibdgjlbhdmfaa.Pure
