/- It proves, for every two 64-bit numbers and every place, that And, Or and Xor are told bit by bit, that Xor with -1 is -1 less the number, and that And and Or add up to the sum. No condition. -/
import Derived.Test.YtnibdgjlbhdmfaaPNumBitsx1
import Derived.Laws.BitsLemmas
namespace Go.Proofs.Ytnibdgjlbhdmfaa.BitsHand
open Go.RowKit Go.Proofs.Ytnibdgjlbhdmfaa.PNumBits Go.Proofs.YtnibdgjlbhdmfaaW.PrintWords Go.Proofs.YtnibdgjlbhdmfaaW.PrintLast Go.Proofs.YtnibdgjlbhdmfaaW.PrintMore

theorem wf64 {a : Int} (h : (Lit.int .i64 a).wf = true) : -9223372036854775808 ≤ a ∧ a ≤ 9223372036854775807 := by
  simp [Lit.wf, IntKind.min, IntKind.max, IntKind.signed, IntKind.bits] at h
  omega

theorem w_ex (n : Int) : ∃ q, wrap64 n = n - 18446744073709551616 * q := ⟨(n + 9223372036854775808) / 18446744073709551616, by unfold wrap64; omega⟩
theorem w_per (n q : Int) : wrap64 (n - 18446744073709551616 * q) = wrap64 n := by unfold wrap64; omega
theorem w_self {a : Int} (h : -9223372036854775808 ≤ a ∧ a ≤ 9223372036854775807) : wrap64 a = a := by unfold wrap64; omega

theorem bit_t : num_bit.f true = some 1 := rfl
theorem bit_f : num_bit.f false = some 0 := rfl
theorem do_add (k : Nat) (a b : Int) : num_Do.f k 4 a b = some (wrap64 (a + b), 0) := by simp [num_Do.f]
theorem do_sub (k : Nat) (a b : Int) : num_Do.f k 5 a b = some (wrap64 (a - b), 0) := by simp [num_Do.f]
theorem do_mul (k : Nat) (a b : Int) : num_Do.f k 6 a b = some (wrap64 (a * b), 0) := by simp [num_Do.f]
theorem do_div (k : Nat) (a b : Int) (h : b ≠ 0) : num_Do.f (k + 1) 7 a b = some (wrap64 (Int.tdiv a b), 0) := by simp [num_Do.f, num_Do.j0, h]
theorem do_div0 (k : Nat) (a : Int) : num_Do.f (k + 1) 7 a 0 = some (0, 1) := by simp [num_Do.f, num_Do.j0]
theorem do_rem (k : Nat) (a b : Int) (h : b ≠ 0) : num_Do.f (k + 1) 8 a b = some (Int.tmod a b, 0) := by simp [num_Do.f, num_Do.j0, h]
theorem do_rem0 (k : Nat) (a : Int) : num_Do.f (k + 1) 8 a 0 = some (0, 1) := by simp [num_Do.f, num_Do.j0]
theorem do_and (k : Nat) (a b : Int) : num_Do.f (k + 1) 9 a b = some (Go.bits .and .i64 a b, 0) := by simp [num_Do.f, num_Do.j0]
theorem do_or (k : Nat) (a b : Int) : num_Do.f (k + 1) 10 a b = some (Go.bits .or .i64 a b, 0) := by simp [num_Do.f, num_Do.j0]
theorem do_xor (k : Nat) (a b : Int) : num_Do.f (k + 1) 11 a b = some (Go.bits .xor .i64 a b, 0) := by simp [num_Do.f, num_Do.j0]
theorem do_eq (k : Nat) (a b : Int) : num_Do.f (k + 1) 14 a b = some (if a = b then 1 else 0, 0) := by
  by_cases h : a = b <;> simp [num_Do.f, num_Do.j0, num_bit.f, h]
theorem do_lt (k : Nat) (a b : Int) : num_Do.f (k + 1) 15 a b = some (if a < b then 1 else 0, 0) := by
  by_cases h : a < b <;> simp [num_Do.f, num_Do.j0, num_bit.f, h]
theorem do_not (k : Nat) (a b : Int) : num_Do.f (k + 1) 16 a b = some (if a = 0 then 1 else 0, 0) := by
  by_cases h : a = 0 <;> simp [num_Do.f, num_Do.j0, num_bit.f, h]
theorem first_true (k : Nat) : plnlaw1_first.f (k + 1) = some true := by
  unfold plnlaw1_first.f
  rw [do_div _ _ _ (by decide), do_rem0]
  decide +kernel

theorem bits_of (op : BinOp) (a b : Int) : Go.bits op .i64 a b = ((match op with
    | .and => BitVec.ofInt 64 a &&& BitVec.ofInt 64 b
    | .or => BitVec.ofInt 64 a ||| BitVec.ofInt 64 b
    | .xor => BitVec.ofInt 64 a ^^^ BitVec.ofInt 64 b
    | _ => BitVec.ofInt 64 a &&& ~~~ BitVec.ofInt 64 b) : BitVec 64).toInt := by
  have key : ∀ x : BitVec 64, IntKind.i64.wrap (x.toNat : Int) = x.toInt := by
    intro x
    rw [Go.IntKind.wrap_i64]
    have := x.isLt
    rw [BitVec.toInt_eq_toNat_cond]
    split <;> omega
  unfold Go.bits
  cases op <;> exact key _
theorem and63 (x : Int) : IntKind.u64.wrap (Go.bits .and .i64 x 63) = x % 64 := by
  rw [bits_of]
  simp only []
  have h1 : (BitVec.ofInt 64 x &&& BitVec.ofInt 64 63).toNat = (x % 64).toNat := by
    have e : (BitVec.ofInt 64 63).toNat = 2 ^ 6 - 1 := by decide
    rw [BitVec.toNat_and, e, Nat.and_two_pow_sub_one_eq_mod, BitVec.toNat_ofInt]
    omega
  rw [BitVec.toInt_eq_toNat_cond, h1]
  have : IntKind.u64.wrap = fun n => n % 18446744073709551616 := by
    funext n; simp [IntKind.wrap, IntKind.signed, IntKind.bits]
  rw [this]
  simp only []
  split <;> omega

theorem toInt_ofInt {a : Int} (h : -9223372036854775808 ≤ a ∧ a ≤ 9223372036854775807) : (BitVec.ofInt 64 a).toInt = a := by
  rw [BitVec.toInt_ofInt]
  simp only [Int.bmod]
  split <;> omega
theorem w_toInt (a : Int) : wrap64 a = (BitVec.ofInt 64 a).toInt := by
  rw [BitVec.toInt_ofInt]
  simp only [Int.bmod, wrap64]
  split <;> omega
theorem and_add_or_nat (n a b : Nat) (ha : a < 2 ^ n) (hb : b < 2 ^ n) : (a &&& b) + (a ||| b) = a + b := by
  induction n generalizing a b with
  | zero => have : a = 0 := by omega
            have : b = 0 := by omega
            subst_vars; rfl
  | succ n ih =>
    have h := ih (a / 2) (b / 2) (by omega) (by omega)
    rw [← Nat.and_div_two, ← Nat.or_div_two] at h
    have h1 := Nat.and_mod_two_pow (a := a) (b := b) (n := 1)
    have h2 := Nat.or_mod_two_pow (a := a) (b := b) (n := 1)
    have ha2 : a % 2 = 0 ∨ a % 2 = 1 := by omega
    have hb2 : b % 2 = 0 ∨ b % 2 = 1 := by omega
    simp only [Nat.pow_one] at h1 h2
    have k1 : (0 &&& 0 : Nat) = 0 := rfl
    have k2 : (0 &&& 1 : Nat) = 0 := rfl
    have k3 : (1 &&& 0 : Nat) = 0 := rfl
    have k4 : (1 &&& 1 : Nat) = 1 := rfl
    have k5 : (0 ||| 0 : Nat) = 0 := rfl
    have k6 : (0 ||| 1 : Nat) = 1 := rfl
    have k7 : (1 ||| 0 : Nat) = 1 := rfl
    have k8 : (1 ||| 1 : Nat) = 1 := rfl
    generalize a &&& b = u at *
    generalize a ||| b = v at *
    rcases ha2 with ha2 | ha2 <;> rcases hb2 with hb2 | hb2 <;> rw [ha2, hb2] at h1 h2
    · rw [k1] at h1; rw [k5] at h2; omega
    · rw [k2] at h1; rw [k6] at h2; omega
    · rw [k3] at h1; rw [k7] at h2; omega
    · rw [k4] at h1; rw [k8] at h2; omega
theorem and_add_or (x y : BitVec 64) : (x &&& y) + (x ||| y) = x + y := by
  apply BitVec.eq_of_toNat_eq
  rw [BitVec.toNat_add, BitVec.toNat_add, BitVec.toNat_and, BitVec.toNat_or, and_add_or_nat 64 _ _ x.isLt y.isLt]
theorem bit_at (x : BitVec 64) (i : Nat) (hi : i < 64) : (Go.bits .and .i64 (x.toInt / 2 ^ i) 1 = if x.getLsbD i then 1 else 0) := by
  rw [bits_of]
  simp only []
  have e : (BitVec.ofInt 64 (x.toInt / 2 ^ i) : BitVec 64) = x.sshiftRight i := by
    apply BitVec.eq_of_toInt_eq
    rw [BitVec.toInt_sshiftRight, Int.shiftRight_eq_div_pow, toInt_ofInt]
    · simp
    · have h1 := BitVec.toInt_lt (x := x)
      have h2 := BitVec.le_toInt (x := x)
      have hp : (0 : Int) < 2 ^ i := Int.pow_pos (by decide)
      simp at h1 h2
      constructor
      · exact Int.le_ediv_of_mul_le hp (by generalize (2 : Int) ^ i = p at *; omega)
      · have : x.toInt / 2 ^ i ≤ 9223372036854775807 := by
          by_cases hx : 0 ≤ x.toInt
          · have := Int.ediv_le_self (2 ^ i) hx
            omega
          · have : x.toInt / 2 ^ i < 0 := Int.ediv_neg_of_neg_of_pos (by omega) hp
            omega
        exact this
  rw [e]
  have hb : (x.sshiftRight i &&& BitVec.ofInt 64 1) = if x.getLsbD i then 1#64 else 0#64 := by
    apply BitVec.eq_of_getLsbD_eq
    intro j hj
    rw [BitVec.getLsbD_and]
    have h1 : (BitVec.ofInt 64 1) = 1#64 := by decide
    rw [h1]
    by_cases hj0 : j = 0
    · subst hj0
      rw [BitVec.getLsbD_sshiftRight]
      cases hx : x.getLsbD i <;> simp [hi]
    · have : (1#64).getLsbD j = false := by
        rw [BitVec.getLsbD_one]; simp [hj0]
      rw [this]
      cases hx : x.getLsbD i <;> simp [hj0]
  rw [hb]
  cases hx : x.getLsbD i <;> simp <;> decide

theorem oi (z : BitVec 64) : BitVec.ofInt 64 z.toInt = z := BitVec.ofInt_toInt
theorem xor_all (x : BitVec 64) : Go.bits .xor .i64 x.toInt (-1) = wrap64 (-1 - x.toInt) := by
  rw [bits_of, w_toInt]
  simp only [oi]
  congr 1
  apply BitVec.eq_of_toInt_eq
  have : (BitVec.ofInt 64 (-1)) = BitVec.allOnes 64 := by decide
  rw [this, BitVec.xor_allOnes, BitVec.toInt_not, BitVec.toInt_ofInt]
  have h1 := BitVec.toInt_lt (x := x)
  have h2 := BitVec.le_toInt (x := x)
  simp only [Int.bmod, BitVec.toInt_eq_toNat_cond] at *
  have := x.isLt
  omega
theorem sum_all (x y : BitVec 64) : wrap64 (Go.bits .and .i64 x.toInt y.toInt + Go.bits .or .i64 x.toInt y.toInt) = wrap64 (x.toInt + y.toInt) := by
  rw [bits_of, bits_of, w_toInt, w_toInt]
  simp only [oi, BitVec.ofInt_add, and_add_or]
/-- What the law's last row needs: the bit at place i of each of the five numbers. -/
def Bit (z : Int) (i : Nat) (c : Bool) : Prop := Go.bits .and .i64 (z / 2 ^ i) 1 = if c then 1 else 0
theorem five (x y : BitVec 64) (i : Nat) (hi : i < 64) : ∃ p q : Bool, Bit x.toInt i p ∧ Bit y.toInt i q ∧ Bit (Go.bits .and .i64 x.toInt y.toInt) i (p && q) ∧ Bit (Go.bits .or .i64 x.toInt y.toInt) i (p || q) ∧ Bit (Go.bits .xor .i64 x.toInt y.toInt) i (p ^^ q) := by
  refine ⟨x.getLsbD i, y.getLsbD i, bit_at x i hi, bit_at y i hi, ?_, ?_, ?_⟩
  · have := bit_at (x &&& y) i hi; rw [BitVec.getLsbD_and] at this; unfold Bit; rw [show Go.bits .and .i64 x.toInt y.toInt = (x &&& y).toInt by rw [bits_of]; simp only [oi]]; exact this
  · have := bit_at (x ||| y) i hi; rw [BitVec.getLsbD_or] at this; unfold Bit; rw [show Go.bits .or .i64 x.toInt y.toInt = (x ||| y).toInt by rw [bits_of]; simp only [oi]]; exact this
  · have := bit_at (x ^^^ y) i hi; rw [BitVec.getLsbD_xor] at this; unfold Bit; rw [show Go.bits .xor .i64 x.toInt y.toInt = (x ^^^ y).toInt by rw [bits_of]; simp only [oi]]; exact this
theorem go_first (w : World) : Calls Try.prog 34 #[] w fun e w' => e = .returned (.bool true) ∧ Drawn0 w w' := plnlaw1_first.calls 1 true w (first_true 0)
theorem go_do (op a b v : Int) (w : World) (h : num_Do.f 1 op a b = some (v, 0)) : Calls Try.prog 35 #[.int .i64 op, .int .i64 a, .int .i64 b] w fun e w' => e = .returned (.tuple #[.int .i64 v, .int .i64 0]) ∧ Drawn0 w w' := num_Do.calls 1 op a b v 0 w h
set_option maxHeartbeats 2000000 in
theorem law (a b k s t1 t2 t3 n v x0 y0 x1 x2 x3 : Int) (w : World) (hs : IntKind.u64.wrap (Go.bits .and .i64 k 63) = s) (hs0 : 0 ≤ s) (hs1 : s ≤ 63)
    (h1 : num_Do.f 1 9 a b = some (t1, 0)) (h2 : num_Do.f 1 10 a b = some (t2, 0)) (h3 : num_Do.f 1 11 a b = some (t3, 0))
    (h4 : num_Do.f 1 11 a (-1) = some (n, 0)) (h5 : num_Do.f 1 5 (-1) a = some (n, 0)) (h6 : num_Do.f 1 4 t1 t2 = some (v, 0)) (h7 : num_Do.f 1 4 a b = some (v, 0))
    (bx : Go.bits .and .i64 (a / 2 ^ s.toNat) 1 = x0) (bY : Go.bits .and .i64 (b / 2 ^ s.toNat) 1 = y0)
    (b1 : Go.bits .and .i64 (t1 / 2 ^ s.toNat) 1 = x1) (b2 : Go.bits .and .i64 (t2 / 2 ^ s.toNat) 1 = x2) (b3 : Go.bits .and .i64 (t3 / 2 ^ s.toNat) 1 = x3)
    (c1 : ((x1 == 1) == ((x0 == 1) && (y0 == 1))) = true) (c2 : ((x2 == 1) == ((x0 == 1) || (y0 == 1))) = true) (c3 : ((x3 == 1) == (x0 != y0)) = true)
    (hx : x0 = 0 ∨ x0 = 1) :
    Calls Try.prog 12 #[.int .i64 a, .int .i64 b, .int .i64 k] w fun e w' => e = .returned (.bool true) ∧ Drawn0 w w' := by
  have H1 := Aside0.mk h1; have H2 := Aside0.mk h2; have H3 := Aside0.mk h3; have H4 := Aside0.mk h4; have H5 := Aside0.mk h5; have H6 := Aside0.mk h6; have H7 := Aside0.mk h7
  clear h1 h2 h3 h4 h5 h6 h7
  rcases hx with rfl | rfl
  · have e1 : (x1 == 1) = false := by simpa using c1
    have e2 : ((x2 == 1) == (y0 == 1)) = true := by simpa using c2
    clear c1 c2
    go_enter Try.func12, Try.ntmps12
    go_wp2_with fail
    refine (go_first _).mono ?_; rintro e w' ⟨rfl, ⟨nd, rfl⟩⟩
    go_wp2_with fail
    refine (go_do 9 a b t1 _ H1.out).mono ?_; rintro e w' ⟨rfl, ⟨nd, rfl⟩⟩
    go_wp2_with fail
    refine (go_do 10 a b t2 _ H2.out).mono ?_; rintro e w' ⟨rfl, ⟨nd, rfl⟩⟩
    go_wp2_with fail
    refine (go_do 11 a b t3 _ H3.out).mono ?_; rintro e w' ⟨rfl, ⟨nd, rfl⟩⟩
    go_wp2_with fail
    refine (go_do 11 a (-1) n _ H4.out).mono ?_; rintro e w' ⟨rfl, ⟨nd, rfl⟩⟩
    go_wp2_with fail
    refine (go_do 5 (-1) a n _ H5.out).mono ?_; rintro e w' ⟨rfl, ⟨nd, rfl⟩⟩
    go_wp2_with fail
    refine (go_do 4 t1 t2 v _ H6.out).mono ?_; rintro e w' ⟨rfl, ⟨nd, rfl⟩⟩
    go_wp2_with fail
    refine (go_do 4 a b v _ H7.out).mono ?_; rintro e w' ⟨rfl, ⟨nd, rfl⟩⟩
    go_wp2_with fail
    go_ret
    exact ⟨by first | rfl | (simp; done) | (simp [*]; done), by repeat (first | exact Drawn0.refl _ | apply Drawn0.step)⟩
  · have e1 : ((x1 == 1) == (y0 == 1)) = true := by simpa using c1
    have e2 : (x2 == 1) = true := by simpa using c2
    clear c1 c2
    go_enter Try.func12, Try.ntmps12
    go_wp2_with fail
    refine (go_first _).mono ?_; rintro e w' ⟨rfl, ⟨nd, rfl⟩⟩
    go_wp2_with fail
    refine (go_do 9 a b t1 _ H1.out).mono ?_; rintro e w' ⟨rfl, ⟨nd, rfl⟩⟩
    go_wp2_with fail
    refine (go_do 10 a b t2 _ H2.out).mono ?_; rintro e w' ⟨rfl, ⟨nd, rfl⟩⟩
    go_wp2_with fail
    refine (go_do 11 a b t3 _ H3.out).mono ?_; rintro e w' ⟨rfl, ⟨nd, rfl⟩⟩
    go_wp2_with fail
    refine (go_do 11 a (-1) n _ H4.out).mono ?_; rintro e w' ⟨rfl, ⟨nd, rfl⟩⟩
    go_wp2_with fail
    refine (go_do 5 (-1) a n _ H5.out).mono ?_; rintro e w' ⟨rfl, ⟨nd, rfl⟩⟩
    go_wp2_with fail
    refine (go_do 4 t1 t2 v _ H6.out).mono ?_; rintro e w' ⟨rfl, ⟨nd, rfl⟩⟩
    go_wp2_with fail
    refine (go_do 4 a b v _ H7.out).mono ?_; rintro e w' ⟨rfl, ⟨nd, rfl⟩⟩
    go_wp2_with fail
    go_ret
    exact ⟨by first | rfl | (simp; done) | (simp [*]; done), by repeat (first | exact Drawn0.refl _ | apply Drawn0.step)⟩

theorem walk (a b k : Int) (w : World) (wa : (Lit.int .i64 a).wf = true) (wb : (Lit.int .i64 b).wf = true) :
    Calls Try.prog 12 #[.int .i64 a, .int .i64 b, .int .i64 k] w fun e w' => e = .returned (.bool true) ∧ Below w.heap.size w w' := by
  have ha := wf64 wa
  have hb := wf64 wb
  obtain ⟨x, rfl⟩ : ∃ x : BitVec 64, a = x.toInt := ⟨_, (toInt_ofInt ha).symm⟩
  obtain ⟨y, rfl⟩ : ∃ y : BitVec 64, b = y.toInt := ⟨_, (toInt_ofInt hb).symm⟩
  obtain ⟨p, q, g1, g2, g3, g4, g5⟩ := five x y (k % 64).toNat (by omega)
  unfold Bit at g1 g2 g3 g4 g5
  refine (law x.toInt y.toInt k (k % 64) _ _ _ (wrap64 (-1 - x.toInt)) (wrap64 (x.toInt + y.toInt)) _ _ _ _ _ w (and63 k) (by omega) (by omega) (do_and 0 _ _) (do_or 0 _ _) (do_xor 0 _ _)
    ((do_xor 0 _ _).trans (by rw [xor_all])) (do_sub 1 _ _) ((do_add 1 _ _).trans (by rw [sum_all])) (do_add 1 _ _) g1 g2 g3 g4 g5 ?_ ?_ ?_ ?_).mono (fun e w' ⟨he, hd⟩ => ⟨he, hd.below⟩)
  all_goals cases p <;> cases q <;> decide
end Go.Proofs.Ytnibdgjlbhdmfaa.BitsHand
