/- It proves, for every operator and every two 64-bit numbers, that num.Do, num.Is and num.Turns answer as the document's functions do. No condition. -/
import Derived.Test.YtnibdgjlbhdmfaaPNumTellsx2
import Derived.Laws.BitsLemmas
namespace Go.Proofs.Ytnibdgjlbhdmfaa.Pure
open Go.RowKit Go.Proofs.Ytnibdgjlbhdmfaa.PNumTells Go.Proofs.YtnibdgjlbhdmfaaW.PrintWords Go.Proofs.YtnibdgjlbhdmfaaW.PrintLast Go.Proofs.YtnibdgjlbhdmfaaW.PrintMore
namespace NumTellsAid
theorem wf64 {a : Int} (h : (Lit.int .i64 a).wf = true) : -9223372036854775808 ≤ a ∧ a ≤ 9223372036854775807 := by
  simp [Lit.wf, IntKind.min, IntKind.max, IntKind.signed, IntKind.bits] at h
  omega

theorem w_ex (n : Int) : ∃ q, wrap64 n = n - 18446744073709551616 * q := ⟨(n + 9223372036854775808) / 18446744073709551616, by unfold wrap64; omega⟩
theorem w_per (n q : Int) : wrap64 (n - 18446744073709551616 * q) = wrap64 n := by unfold wrap64; omega
theorem w_self {a : Int} (h : -9223372036854775808 ≤ a ∧ a ≤ 9223372036854775807) : wrap64 a = a := by unfold wrap64; omega

theorem bit_t : num_bit.f true = some 1 := rfl
theorem bit_f : num_bit.f false = some 0 := rfl
theorem do_add (k : Nat) (a b : Int) : num_Do.f k 4 a b = some (wrap64 (a + b), 0) := by simp [num_Do.f]
theorem do_sub (k : Nat) (a b : Int) : num_Do.f k 5 a b = some (wrap64 (a - b), 0) := by simp [num_Do.f]
theorem do_mul (k : Nat) (a b : Int) : num_Do.f k 6 a b = some (wrap64 (a * b), 0) := by simp [num_Do.f]
theorem do_div (k : Nat) (a b : Int) (h : b ≠ 0) : num_Do.f (k + 1) 7 a b = some (wrap64 (Int.tdiv a b), 0) := by simp [num_Do.f, num_Do.j0, h]
theorem do_div0 (k : Nat) (a : Int) : num_Do.f (k + 1) 7 a 0 = some (0, 1) := by simp [num_Do.f, num_Do.j0]
theorem do_rem (k : Nat) (a b : Int) (h : b ≠ 0) : num_Do.f (k + 1) 8 a b = some (Int.tmod a b, 0) := by simp [num_Do.f, num_Do.j0, h]
theorem do_rem0 (k : Nat) (a : Int) : num_Do.f (k + 1) 8 a 0 = some (0, 1) := by simp [num_Do.f, num_Do.j0]
theorem do_and (k : Nat) (a b : Int) : num_Do.f (k + 1) 9 a b = some (Go.bits .and .i64 a b, 0) := by simp [num_Do.f, num_Do.j0]
theorem do_or (k : Nat) (a b : Int) : num_Do.f (k + 1) 10 a b = some (Go.bits .or .i64 a b, 0) := by simp [num_Do.f, num_Do.j0]
theorem do_xor (k : Nat) (a b : Int) : num_Do.f (k + 1) 11 a b = some (Go.bits .xor .i64 a b, 0) := by simp [num_Do.f, num_Do.j0]
theorem do_eq (k : Nat) (a b : Int) : num_Do.f (k + 1) 14 a b = some (if a = b then 1 else 0, 0) := by
  by_cases h : a = b <;> simp [num_Do.f, num_Do.j0, num_bit.f, h]
theorem do_lt (k : Nat) (a b : Int) : num_Do.f (k + 1) 15 a b = some (if a < b then 1 else 0, 0) := by
  by_cases h : a < b <;> simp [num_Do.f, num_Do.j0, num_bit.f, h]
theorem do_not (k : Nat) (a b : Int) : num_Do.f (k + 1) 16 a b = some (if a = 0 then 1 else 0, 0) := by
  by_cases h : a = 0 <;> simp [num_Do.f, num_Do.j0, num_bit.f, h]
theorem first_true (k : Nat) : plnlaw1_first.f (k + 1) = some true := by
  unfold plnlaw1_first.f
  rw [do_div _ _ _ (by decide), do_rem0]
  decide +kernel

theorem ite_ex {α : Type} {c : Prop} [Decidable c] {a b : Option α} (h : ∃ r, a = some r) (k : ∃ r, b = some r) : ∃ r, (if c then a else b) = some r := by
  split
  · exact h
  · exact k
end NumTellsAid
open NumTellsAid

theorem NumTells : plnlaw1_NumTells.Pure := by
  intro op a b hop ha hb
  have ha := wf64 ha
  refine ⟨1, ?_⟩
  unfold plnlaw1_NumTells.f
  rw [first_true 0]
  simp only [Option.bind_some, if_true]
  have hz : 0 ≤ IntKind.u64.wrap (Go.bits .and .i64 b 63) := by
    have : IntKind.u64.wrap = fun n => n % 18446744073709551616 := by
      funext n; simp [IntKind.wrap, IntKind.signed, IntKind.bits]
    rw [this]; simp only []; omega
  have hbit : ∀ c : Bool, num_bit.f c = plnref1_bit.f c := fun _ => rfl
  have key : num_Do.f 1 op a b = plnref1_Do.f op a b := by
    by_cases h : 4 ≤ op ∧ op ≤ 16
    · have hh : op = 4 ∨ op = 5 ∨ op = 6 ∨ op = 7 ∨ op = 8 ∨ op = 9 ∨ op = 10 ∨ op = 11 ∨ op = 12 ∨ op = 13 ∨ op = 14 ∨ op = 15 ∨ op = 16 := by omega
      rcases hh with rfl | rfl | rfl | rfl | rfl | rfl | rfl | rfl | rfl | rfl | rfl | rfl | rfl
      · simp [num_Do.f, plnref1_Do.f]
      · simp [num_Do.f, plnref1_Do.f]
      · simp [num_Do.f, plnref1_Do.f]
      · by_cases h0 : b = 0
        · subst h0; simp [num_Do.f, num_Do.j0, plnref1_Do.f]
        · by_cases h1 : b = -1
          · subst h1; simp [num_Do.f, num_Do.j0, plnref1_Do.f]
          · simp [num_Do.f, num_Do.j0, plnref1_Do.f, h0, h1]
      · by_cases h0 : b = 0
        · subst h0; simp [num_Do.f, num_Do.j0, plnref1_Do.f]
        · by_cases h1 : b = -1
          · subst h1; simp [num_Do.f, num_Do.j0, plnref1_Do.f, Int.tmod_neg]
          · simp [num_Do.f, num_Do.j0, plnref1_Do.f, h0, h1]
      · simp [num_Do.f, num_Do.j0, plnref1_Do.f]
      · simp [num_Do.f, num_Do.j0, plnref1_Do.f]
      · simp [num_Do.f, num_Do.j0, plnref1_Do.f]
      · simp [num_Do.f, num_Do.j0, plnref1_Do.f]
      · simp [num_Do.f, num_Do.j0, plnref1_Do.f]
      · simp [num_Do.f, num_Do.j0, plnref1_Do.f, hbit]
      · simp [num_Do.f, num_Do.j0, plnref1_Do.f, hbit]
      · simp [num_Do.f, num_Do.j0, plnref1_Do.f, hbit]
    · have n4 : ¬ op = 4 := by omega
      have n5 : ¬ op = 5 := by omega
      have n6 : ¬ op = 6 := by omega
      have n7 : ¬ op = 7 := by omega
      have n8 : ¬ op = 8 := by omega
      have n9 : ¬ op = 9 := by omega
      have n10 : ¬ op = 10 := by omega
      have n11 : ¬ op = 11 := by omega
      have n12 : ¬ op = 12 := by omega
      have n13 : ¬ op = 13 := by omega
      have n14 : ¬ op = 14 := by omega
      have n15 : ¬ op = 15 := by omega
      have n16 : ¬ op = 16 := by omega
      simp [num_Do.f, num_Do.j0, plnref1_Do.f, n4, n5, n6, n7, n8, n9, n10, n11, n12, n13, n14, n15, n16]
  have some_do : ∃ r, plnref1_Do.f op a b = some r := by
    unfold plnref1_Do.f
    rw [if_pos hz, if_pos hz]
    have : ∀ c : Bool, ∃ r, plnref1_bit.f c = some r := fun c => by cases c <;> exact ⟨_, rfl⟩
    obtain ⟨r1, h1⟩ := this (a == b)
    obtain ⟨r2, h2⟩ := this (decide (a < b))
    obtain ⟨r3, h3⟩ := this (a == 0)
    rw [h1, h2, h3]
    simp only [Option.bind_some]
    repeat' (first | exact ⟨_, rfl⟩ | refine ite_ex ?_ ?_)
  obtain ⟨⟨r1, r2⟩, hr⟩ := some_do
  rw [key, hr]
  simp only [Option.bind_some, if_true]
  have hIs : num_Is.f op = plnref1_Is.f op := rfl
  have hTurns : num_Turns.f op = plnref1_Turns.f op := rfl
  have sIs : ∃ r, plnref1_Is.f op = some r := by unfold plnref1_Is.f; repeat' (first | exact ⟨_, rfl⟩ | refine ite_ex ?_ ?_)
  have sT : ∃ r, plnref1_Turns.f op = some r := by unfold plnref1_Turns.f; repeat' (first | exact ⟨_, rfl⟩ | refine ite_ex ?_ ?_)
  obtain ⟨i, hi⟩ := sIs
  obtain ⟨t, ht⟩ := sT
  rw [hIs, hTurns, hi, ht]
  simp

end Go.Proofs.Ytnibdgjlbhdmfaa.Pure
