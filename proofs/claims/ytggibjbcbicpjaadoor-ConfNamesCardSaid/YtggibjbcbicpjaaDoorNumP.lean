/- Numbers shown and read: what lex.Show and lex.Num come to, and that what is shown is read. -/
import Derived.Lib.ItoaLen
import Derived.Lib.ParseIntBTie
namespace Go.Proofs.YtggibjbcbicpjaaDoor.Num
open Go Go.Lib
set_option linter.unusedVariables false
set_option linter.unusedSimpArgs false
theorem dig_val {u : Nat} (h : u < 10) : (UInt8.ofNat (48 + u)).toNat = 48 + u := by
  rw [UInt8.toNat_ofNat']
  omega
theorem parse_app : ∀ (l r : List UInt8) (acc a : Nat), parseUint10 acc l = .ok a → parseUint10 acc (l ++ r) = parseUint10 a r
  | [], r, acc, a, h => by
    simp only [parseUint10] at h
    injection h with h
    rw [h, List.nil_append]
  | c :: l, r, acc, a, h => by
    rw [List.cons_append]
    simp only [parseUint10] at h ⊢
    split at h
    · rename_i h1
      rw [if_pos h1]
      split at h
      · cases h
      · rename_i h2
        rw [if_neg h2]
        split at h
        · cases h
        · rename_i h3
          rw [if_neg h3]
          exact parse_app l r _ a h
    · cases h
theorem parse_dec (u : Nat) (h : u < 18446744073709551616) : parseUint10 0 (decDigits u) = .ok u := by
  induction u using Nat.strongRecOn with
  | ind u ih =>
    rw [decDigits]
    split
    · rename_i hu
      simp only [parseUint10, dig_val hu]
      rw [if_pos (by omega), if_neg (by omega), if_neg (by omega)]
      congr 1
      omega
    · rename_i hu
      rw [parse_app _ _ 0 (u / 10) (ih (u / 10) (by omega) (by omega))]
      simp only [parseUint10, dig_val (show u % 10 < 10 by omega)]
      rw [if_pos (by omega), if_neg (by omega), if_neg (by omega)]
      congr 1
      omega
theorem dec_head (u : Nat) : ∃ c r, decDigits u = c :: r ∧ 48 ≤ c.toNat ∧ c.toNat ≤ 57 ∧ (c.toNat = 48 → u = 0 ∧ r = []) := by
  induction u using Nat.strongRecOn with
  | ind u ih =>
    rw [decDigits]
    split
    · rename_i hu
      refine ⟨_, _, rfl, ?_⟩
      rw [dig_val hu]
      exact ⟨by omega, by omega, fun h => ⟨by omega, rfl⟩⟩
    · rename_i hu
      obtain ⟨c, r, e, h1, h2, h3⟩ := ih (u / 10) (by omega)
      refine ⟨c, r ++ [UInt8.ofNat (48 + u % 10)], by rw [e]; rfl, h1, h2, fun h => ?_⟩
      have := (h3 h).1
      omega
theorem itoa_ne (n : Int) : itoa n ≠ [] := by
  unfold itoa
  split
  · simp
  · obtain ⟨c, r, e, _⟩ := dec_head n.toNat
    rw [e]
    simp
theorem atoi_itoa (n : Int) (h0 : -9223372036854775808 ≤ n) (h1 : n ≤ 9223372036854775807) : parseIntB 64 (itoa n) = .ok n := by
  rw [parseIntB_64]
  by_cases hn : n < 0
  · obtain ⟨u, rfl⟩ : ∃ u : Nat, n = -(u : Int) := ⟨n.natAbs, by omega⟩
    obtain ⟨c, r, e, _⟩ := dec_head u
    have hp : parseMag (decDigits u) = .ok u := by
      unfold parseMag
      rw [if_neg (by rw [e]; simp)]
      exact parse_dec u (by omega)
    rw [itoa_neg u (by omega)]
    unfold atoiAll
    have e45 : (45 : UInt8).toNat = 45 := rfl
    simp only [e45, or_true, if_true, hp]
    rw [if_neg (fun h => h.1 trivial), if_neg (fun h => by have := h.2; omega)]
  · obtain ⟨u, rfl⟩ : ∃ u : Nat, n = u := ⟨n.toNat, by omega⟩
    obtain ⟨c, r, e, g1, g2, _⟩ := dec_head u
    have hp : parseMag (decDigits u) = .ok u := by
      unfold parseMag
      rw [if_neg (by rw [e]; simp)]
      exact parse_dec u (by omega)
    rw [itoa_nonneg]
    rw [e] at hp ⊢
    unfold atoiAll
    have e1 : ¬ (c.toNat = 43 ∨ c.toNat = 45) := by omega
    have e2 : ¬ c.toNat = 45 := by omega
    simp only [if_neg e1, hp]
    rw [if_neg (fun h => by have := h.2; omega), if_neg (fun h => e2 h.1), if_neg e2]
/-- What lex.Num answers. -/
def numL (l : List UInt8) : Int × Bool := match parseIntB 64 l with
  | .ok v => if itoa v = l then (v, true) else (0, false)
  | _ => (0, false)
theorem numL_itoa (n : Int) (h0 : -9223372036854775808 ≤ n) (h1 : n ≤ 9223372036854775807) : numL (itoa n) = (n, true) := by
  unfold numL
  rw [atoi_itoa n h0 h1]
  exact if_pos rfl
theorem numL_yes {l : List UInt8} (h : (numL l).2 = true) : itoa (numL l).1 = l := by
  unfold numL at h ⊢
  split at h
  · rename_i v e
    split at h
    · rename_i e2
      simp only [e, if_pos e2]
      exact e2
    · cases h
  · cases h
theorem numL_more (n : Int) (c : UInt8) : ¬ ((numL (itoa n ++ [c])).2 = true ∧ (numL (itoa n ++ [c])).1 = n) := fun ⟨h1, h2⟩ => by
  have h := numL_yes h1
  rw [h2] at h
  have := congrArg List.length h
  simp at this
theorem numL_zero (n : Int) : (numL (48 :: itoa n)).2 = false := by
  cases h : (numL (48 :: itoa n)).2 with
  | false => rfl
  | true =>
    have e := numL_yes h
    generalize (numL (48 :: itoa n)).1 = v at e
    unfold itoa at e
    split at e
    · injection e with e1 _
      exact absurd e1 (by decide)
    · obtain ⟨c, r, g, _, _, g3⟩ := dec_head v.toNat
      rw [g] at e
      injection e with e1 e2
      have := (g3 (by rw [e1]; rfl)).2
      rw [this] at e2
      exact absurd e2.symm (itoa_ne n)
theorem numL_bounds (l : List UInt8) : -9223372036854775808 ≤ (numL l).1 ∧ (numL l).1 ≤ 9223372036854775807 := by
  unfold numL
  split
  · rename_i v e
    rw [parseIntB_64] at e
    have := atoiAll_bounds e
    split
    · exact this
    · exact ⟨by decide, by decide⟩
  · exact ⟨by decide, by decide⟩
end Go.Proofs.YtggibjbcbicpjaaDoor.Num
