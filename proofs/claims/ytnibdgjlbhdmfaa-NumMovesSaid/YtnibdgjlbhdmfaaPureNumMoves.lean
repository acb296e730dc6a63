/- It proves, for every number and every count, that Shl doubles and Shr halves towards the least as often as the count's lowest six bits say. No condition. -/
import Derived.Test.YtnibdgjlbhdmfaaPNumMovesx1
import Derived.Laws.BitsLemmas
namespace Go.Proofs.Ytnibdgjlbhdmfaa.Pure
open Go.RowKit Go.Proofs.Ytnibdgjlbhdmfaa.PNumMoves Go.Proofs.YtnibdgjlbhdmfaaW.PrintWords Go.Proofs.YtnibdgjlbhdmfaaW.PrintLast Go.Proofs.YtnibdgjlbhdmfaaW.PrintMore
namespace NumMovesAid
theorem wf64 {a : Int} (h : (Lit.int .i64 a).wf = true) : -9223372036854775808 ≤ a ∧ a ≤ 9223372036854775807 := by
  simp [Lit.wf, IntKind.min, IntKind.max, IntKind.signed, IntKind.bits] at h
  omega

theorem w_ex (n : Int) : ∃ q, wrap64 n = n - 18446744073709551616 * q := ⟨(n + 9223372036854775808) / 18446744073709551616, by unfold wrap64; omega⟩
theorem w_per (n q : Int) : wrap64 (n - 18446744073709551616 * q) = wrap64 n := by unfold wrap64; omega
theorem w_self {a : Int} (h : -9223372036854775808 ≤ a ∧ a ≤ 9223372036854775807) : wrap64 a = a := by unfold wrap64; omega

theorem bit_t : num_bit.f true = some 1 := rfl
theorem bit_f : num_bit.f false = some 0 := rfl
theorem do_add (k : Nat) (a b : Int) : num_Do.f k 4 a b = some (wrap64 (a + b), 0) := by simp [num_Do.f]
theorem do_sub (k : Nat) (a b : Int) : num_Do.f k 5 a b = some (wrap64 (a - b), 0) := by simp [num_Do.f]
theorem do_mul (k : Nat) (a b : Int) : num_Do.f k 6 a b = some (wrap64 (a * b), 0) := by simp [num_Do.f]
theorem do_div (k : Nat) (a b : Int) (h : b ≠ 0) : num_Do.f (k + 1) 7 a b = some (wrap64 (Int.tdiv a b), 0) := by simp [num_Do.f, num_Do.j0, h]
theorem do_div0 (k : Nat) (a : Int) : num_Do.f (k + 1) 7 a 0 = some (0, 1) := by simp [num_Do.f, num_Do.j0]
theorem do_rem (k : Nat) (a b : Int) (h : b ≠ 0) : num_Do.f (k + 1) 8 a b = some (Int.tmod a b, 0) := by simp [num_Do.f, num_Do.j0, h]
theorem do_rem0 (k : Nat) (a : Int) : num_Do.f (k + 1) 8 a 0 = some (0, 1) := by simp [num_Do.f, num_Do.j0]
theorem do_and (k : Nat) (a b : Int) : num_Do.f (k + 1) 9 a b = some (Go.bits .and .i64 a b, 0) := by simp [num_Do.f, num_Do.j0]
theorem do_or (k : Nat) (a b : Int) : num_Do.f (k + 1) 10 a b = some (Go.bits .or .i64 a b, 0) := by simp [num_Do.f, num_Do.j0]
theorem do_xor (k : Nat) (a b : Int) : num_Do.f (k + 1) 11 a b = some (Go.bits .xor .i64 a b, 0) := by simp [num_Do.f, num_Do.j0]
theorem do_eq (k : Nat) (a b : Int) : num_Do.f (k + 1) 14 a b = some (if a = b then 1 else 0, 0) := by
  by_cases h : a = b <;> simp [num_Do.f, num_Do.j0, num_bit.f, h]
theorem do_lt (k : Nat) (a b : Int) : num_Do.f (k + 1) 15 a b = some (if a < b then 1 else 0, 0) := by
  by_cases h : a < b <;> simp [num_Do.f, num_Do.j0, num_bit.f, h]
theorem do_not (k : Nat) (a b : Int) : num_Do.f (k + 1) 16 a b = some (if a = 0 then 1 else 0, 0) := by
  by_cases h : a = 0 <;> simp [num_Do.f, num_Do.j0, num_bit.f, h]
theorem first_true (k : Nat) : plnlaw1_first.f (k + 1) = some true := by
  unfold plnlaw1_first.f
  rw [do_div _ _ _ (by decide), do_rem0]
  decide +kernel

theorem bits_of (op : BinOp) (a b : Int) : Go.bits op .i64 a b = ((match op with
    | .and => BitVec.ofInt 64 a &&& BitVec.ofInt 64 b
    | .or => BitVec.ofInt 64 a ||| BitVec.ofInt 64 b
    | .xor => BitVec.ofInt 64 a ^^^ BitVec.ofInt 64 b
    | _ => BitVec.ofInt 64 a &&& ~~~ BitVec.ofInt 64 b) : BitVec 64).toInt := by
  have key : ∀ x : BitVec 64, IntKind.i64.wrap (x.toNat : Int) = x.toInt := by
    intro x
    rw [Go.IntKind.wrap_i64]
    have := x.isLt
    rw [BitVec.toInt_eq_toNat_cond]
    split <;> omega
  unfold Go.bits
  cases op <;> exact key _
theorem and63 (x : Int) : IntKind.u64.wrap (Go.bits .and .i64 x 63) = x % 64 := by
  rw [bits_of]
  simp only []
  have h1 : (BitVec.ofInt 64 x &&& BitVec.ofInt 64 63).toNat = (x % 64).toNat := by
    have e : (BitVec.ofInt 64 63).toNat = 2 ^ 6 - 1 := by decide
    rw [BitVec.toNat_and, e, Nat.and_two_pow_sub_one_eq_mod, BitVec.toNat_ofInt]
    omega
  rw [BitVec.toInt_eq_toNat_cond, h1]
  have : IntKind.u64.wrap = fun n => n % 18446744073709551616 := by
    funext n; simp [IntKind.wrap, IntKind.signed, IntKind.bits]
  rw [this]
  simp only []
  split <;> omega

theorem and63i (x : Int) : Go.bits .and .i64 x 63 = x % 64 := by
  have h := and63 x
  rw [bits_of] at h ⊢
  simp only [] at h ⊢
  have h1 : (BitVec.ofInt 64 x &&& BitVec.ofInt 64 63).toNat = (x % 64).toNat := by
    have e : (BitVec.ofInt 64 63).toNat = 2 ^ 6 - 1 := by decide
    rw [BitVec.toNat_and, e, Nat.and_two_pow_sub_one_eq_mod, BitVec.toNat_ofInt]
    omega
  rw [BitVec.toInt_eq_toNat_cond, h1]
  split <;> omega
theorem xor64 (x : Int) : (Go.bits .xor .i64 x 64) % 64 = x % 64 := by
  rw [bits_of]
  simp only []
  have h1 : (BitVec.ofInt 64 x ^^^ BitVec.ofInt 64 64).toNat % 2 ^ 6 = (x % 64).toNat := by
    have e : (BitVec.ofInt 64 64).toNat = 64 := by decide
    rw [BitVec.toNat_xor, e, Nat.xor_mod_two_pow, BitVec.toNat_ofInt]
    simp
    omega
  rw [BitVec.toInt_eq_toNat_cond]
  split <;> omega
theorem do_shl (k : Nat) (a b : Int) : num_Do.f (k + 1) 12 a b = some (shl .i64 a (b % 64), 0) := by
  have h : (0 : Int) ≤ b % 64 := by omega
  simp [num_Do.f, num_Do.j0, and63, h]
theorem do_shr (k : Nat) (a b : Int) : num_Do.f (k + 1) 13 a b = some (shr .i64 a (b % 64), 0) := by
  have h : (0 : Int) ≤ b % 64 := by omega
  simp [num_Do.f, num_Do.j0, and63, h]
theorem half_neg (y : Int) (h : y < 0) (h2 : Int.tmod y 2 ≠ 0) : Int.tdiv y 2 - 1 = y / 2 := by
  have e := Int.mul_tdiv_add_tmod y 2
  obtain ⟨z, rfl⟩ : ∃ z, y = -z := ⟨-y, by omega⟩
  rw [Int.neg_tdiv, Int.neg_tmod] at *
  rw [Int.tmod_eq_emod_of_nonneg (by omega)] at *
  rw [Int.tdiv_eq_ediv_of_nonneg (by omega)] at *
  omega
theorem half_even (y : Int) (h : Int.tmod y 2 = 0) : Int.tdiv y 2 = y / 2 := by
  have e := Int.mul_tdiv_add_tmod y 2
  omega
theorem half_pos (y : Int) (h : 0 ≤ y) : Int.tdiv y 2 = y / 2 := Int.tdiv_eq_ediv_of_nonneg h
theorem pow_succ_w (a : Int) (i : Nat) : wrap64 (wrap64 (a * 2 ^ i) + wrap64 (a * 2 ^ i)) = wrap64 (a * 2 ^ (i + 1)) := by
  obtain ⟨q, hq⟩ := w_ex (a * 2 ^ i)
  rw [hq, show a * 2 ^ i - 18446744073709551616 * q + (a * 2 ^ i - 18446744073709551616 * q) = a * 2 ^ i * 2 - 18446744073709551616 * (2 * q) by omega, w_per, Int.pow_succ, Int.mul_assoc]
theorem pow_succ_d (a : Int) (i : Nat) : a / 2 ^ i / 2 = a / 2 ^ (i + 1) := by
  rw [Int.pow_succ, Int.ediv_ediv_of_nonneg (Int.pow_nonneg (by decide))]
theorem pow_in (a : Int) (ha : -9223372036854775808 ≤ a ∧ a ≤ 9223372036854775807) (i : Nat) : -9223372036854775808 ≤ a / 2 ^ i ∧ a / 2 ^ i ≤ 9223372036854775807 := by
  induction i with
  | zero => simpa using ha
  | succ i ih => rw [← pow_succ_d]; omega
theorem loop (a n up down far : Int) (ha : -9223372036854775808 ≤ a ∧ a ≤ 9223372036854775807)
    (hup : up = wrap64 (a * 2 ^ (n % 64).toNat)) (hdown : down = a / 2 ^ (n % 64).toNat) (hfar : far = up) (d : Nat) :
    ∀ (k i : Nat), (i : Int) + d = n % 64 → d < k → plnlaw1_NumMoves.l0 k n up down far (wrap64 (a * 2 ^ i)) (a / 2 ^ i) i = some true := by
  induction d with
  | zero =>
    intro k i hi hk
    obtain ⟨k, rfl⟩ : ∃ m, k = m + 1 := ⟨k - 1, by omega⟩
    simp only [plnlaw1_NumMoves.l0]
    have e : (n % 64).toNat = i := by omega
    rw [and63i, if_neg (by omega), hup, hdown, e, if_pos rfl, if_pos rfl, hfar, hup, e]
    simp
  | succ d ih =>
    intro k i hi hk
    obtain ⟨k, rfl⟩ : ∃ m, k = m + 1 := ⟨k - 1, by omega⟩
    simp only [plnlaw1_NumMoves.l0]
    rw [and63i, if_pos (by omega), do_add]
    simp only [Option.bind_some]
    have hI := ih k (i + 1) (by omega) (by omega)
    have hin := pow_in a ha i
    have wi : wrap64 ((i : Int) + 1) = ((i + 1 : Nat) : Int) := by rw [w_self (by omega)]; omega
    rw [pow_succ_w, wi]
    rw [← pow_succ_d] at hI
    by_cases hneg : a / 2 ^ i < 0
    · rw [if_pos hneg]
      by_cases hm : Int.tmod (a / 2 ^ i) 2 = 0
      · rw [if_pos hm, half_even _ hm, w_self (a := a / 2 ^ i / 2) (by omega)]; exact hI
      · rw [if_neg hm]
        have e := half_neg _ hneg hm
        generalize a / 2 ^ i = y at *
        rw [w_self (a := Int.tdiv y 2) (by omega), e, w_self (a := y / 2) (by omega)]; exact hI
    · rw [if_neg hneg, half_pos _ (by omega), w_self (a := a / 2 ^ i / 2) (by omega)]; exact hI
end NumMovesAid
open NumMovesAid

theorem NumMoves : plnlaw1_NumMoves.Pure := by
  intro a n ha hn
  have ha := wf64 ha
  obtain ⟨m, hm⟩ : ∃ m : Nat, 64 ≤ m := ⟨64, Nat.le_refl _⟩
  refine ⟨m + 1, ?_⟩
  unfold plnlaw1_NumMoves.f
  rw [first_true m]
  simp only [Option.bind_some, if_true, do_shl, do_shr]
  have hk : IntKind.i64.wrap = wrap64 := by funext x; rw [Go.IntKind.wrap_i64, wrap64]
  have hmin : min (n % 64).toNat IntKind.i64.bits = (n % 64).toNat := by
    show min _ 64 = _
    omega
  have e := loop a n (shl .i64 a (n % 64)) (shr .i64 a (n % 64)) (shl .i64 a (Go.bits .xor .i64 n 64 % 64)) ha
    (by unfold shl; rw [hk, hmin]) (by unfold shr; rw [hmin]) (by rw [xor64]) (n % 64).toNat (m + 1) 0 (by omega) (by omega)
  rw [Int.pow_zero, Int.mul_one, Int.ediv_one, w_self ha, show ((0 : Nat) : Int) = (0 : Int) from rfl] at e
  exact e

end Go.Proofs.Ytnibdgjlbhdmfaa.Pure
