/- It proves, for every two 64-bit numbers, that just one of below, above and alike holds, and that Not turns over. No condition. -/
import Derived.Test.YtnibdgjlbhdmfaaPNumOrderx1
import Derived.Laws.BitsLemmas
namespace Go.Proofs.Ytnibdgjlbhdmfaa.Pure
open Go.RowKit Go.Proofs.Ytnibdgjlbhdmfaa.PNumOrder Go.Proofs.YtnibdgjlbhdmfaaW.PrintWords Go.Proofs.YtnibdgjlbhdmfaaW.PrintLast Go.Proofs.YtnibdgjlbhdmfaaW.PrintMore
namespace NumOrderAid
theorem wf64 {a : Int} (h : (Lit.int .i64 a).wf = true) : -9223372036854775808 ≤ a ∧ a ≤ 9223372036854775807 := by
  simp [Lit.wf, IntKind.min, IntKind.max, IntKind.signed, IntKind.bits] at h
  omega

theorem w_ex (n : Int) : ∃ q, wrap64 n = n - 18446744073709551616 * q := ⟨(n + 9223372036854775808) / 18446744073709551616, by unfold wrap64; omega⟩
theorem w_per (n q : Int) : wrap64 (n - 18446744073709551616 * q) = wrap64 n := by unfold wrap64; omega
theorem w_self {a : Int} (h : -9223372036854775808 ≤ a ∧ a ≤ 9223372036854775807) : wrap64 a = a := by unfold wrap64; omega

theorem bit_t : num_bit.f true = some 1 := rfl
theorem bit_f : num_bit.f false = some 0 := rfl
theorem do_add (k : Nat) (a b : Int) : num_Do.f k 4 a b = some (wrap64 (a + b), 0) := by simp [num_Do.f]
theorem do_sub (k : Nat) (a b : Int) : num_Do.f k 5 a b = some (wrap64 (a - b), 0) := by simp [num_Do.f]
theorem do_mul (k : Nat) (a b : Int) : num_Do.f k 6 a b = some (wrap64 (a * b), 0) := by simp [num_Do.f]
theorem do_div (k : Nat) (a b : Int) (h : b ≠ 0) : num_Do.f (k + 1) 7 a b = some (wrap64 (Int.tdiv a b), 0) := by simp [num_Do.f, num_Do.j0, h]
theorem do_div0 (k : Nat) (a : Int) : num_Do.f (k + 1) 7 a 0 = some (0, 1) := by simp [num_Do.f, num_Do.j0]
theorem do_rem (k : Nat) (a b : Int) (h : b ≠ 0) : num_Do.f (k + 1) 8 a b = some (Int.tmod a b, 0) := by simp [num_Do.f, num_Do.j0, h]
theorem do_rem0 (k : Nat) (a : Int) : num_Do.f (k + 1) 8 a 0 = some (0, 1) := by simp [num_Do.f, num_Do.j0]
theorem do_and (k : Nat) (a b : Int) : num_Do.f (k + 1) 9 a b = some (Go.bits .and .i64 a b, 0) := by simp [num_Do.f, num_Do.j0]
theorem do_or (k : Nat) (a b : Int) : num_Do.f (k + 1) 10 a b = some (Go.bits .or .i64 a b, 0) := by simp [num_Do.f, num_Do.j0]
theorem do_xor (k : Nat) (a b : Int) : num_Do.f (k + 1) 11 a b = some (Go.bits .xor .i64 a b, 0) := by simp [num_Do.f, num_Do.j0]
theorem do_eq (k : Nat) (a b : Int) : num_Do.f (k + 1) 14 a b = some (if a = b then 1 else 0, 0) := by
  by_cases h : a = b <;> simp [num_Do.f, num_Do.j0, num_bit.f, h]
theorem do_lt (k : Nat) (a b : Int) : num_Do.f (k + 1) 15 a b = some (if a < b then 1 else 0, 0) := by
  by_cases h : a < b <;> simp [num_Do.f, num_Do.j0, num_bit.f, h]
theorem do_not (k : Nat) (a b : Int) : num_Do.f (k + 1) 16 a b = some (if a = 0 then 1 else 0, 0) := by
  by_cases h : a = 0 <;> simp [num_Do.f, num_Do.j0, num_bit.f, h]
theorem first_true (k : Nat) : plnlaw1_first.f (k + 1) = some true := by
  unfold plnlaw1_first.f
  rw [do_div _ _ _ (by decide), do_rem0]
  decide +kernel

end NumOrderAid
open NumOrderAid

theorem NumOrder : plnlaw1_NumOrder.Pure := by
  intro a b _ _
  refine ⟨1, ?_⟩
  unfold plnlaw1_NumOrder.f
  rw [first_true 0]
  simp only [Option.bind_some, if_true, do_lt, do_eq, do_not]
  have w1 : wrap64 1 = 1 := by decide +kernel
  have w0 : wrap64 0 = 0 := by decide +kernel
  rcases Int.lt_trichotomy a b with h | h | h
  · have h1 : ¬ b < a := by omega
    have h2 : ¬ a = b := by omega
    simp [h, h1, h2, w1]
  · subst h
    simp [w1, w0]
  · have h1 : ¬ a < b := by omega
    have h2 : ¬ a = b := by omega
    simp [h, h1, h2, w1]

end Go.Proofs.Ytnibdgjlbhdmfaa.Pure
