/- lex.Ref: what it answers. -/
import Derived.Test.YtggibjbcbicpjaaDoorLex
namespace Go.Proofs.YtggibjbcbicpjaaDoor.Num
open Go Go.RowKit
set_option linter.unusedVariables false
set_option linter.unusedSimpArgs false
def refN (x : Int × Bool) : Int × Bool := if x.2 = true ∧ 0 ≤ x.1 ∧ x.1 ≤ 9999 then (x.1, true) else (0, false)
def refL (l : List UInt8) (m : Int) : Int × Bool := match l with
  | c :: d :: r => if (c.toNat : Int) = m then refN (numL (d :: r)) else (0, false)
  | _ => (0, false)
theorem two_of {s : ByteArray} (h : 2 ≤ s.size) (h0 : 0 < s.size) : ∃ c d r, s.data.toList = c :: d :: r ∧ s[0] = c ∧ (s.extract 1 s.size).data.toList = d :: r := by
  have e : s.data.toList.length = s.size := by rw [Array.length_toList]; rfl
  match hl : s.data.toList with
  | [] => rw [hl] at e; simp at e; omega
  | [c] => rw [hl] at e; simp at e; omega
  | c :: d :: r =>
    refine ⟨c, d, r, rfl, ?_, ?_⟩
    · have h1 : s[0] = s.data.toList[0]'(by rw [e]; exact h0) := rfl
      rw [h1]
      simp [hl]
    · rw [ByteArray.data_extract, Array.toList_extract, hl, ← e, hl]
      simp
theorem ref_short {s : ByteArray} (m : Int) (h : s.size < 2) : refL s.data.toList m = (0, false) := by
  have e : s.data.toList.length = s.size := by rw [Array.length_toList]; rfl
  match hl : s.data.toList with
  | [] => rfl
  | [c] => rfl
  | c :: d :: r => rw [hl] at e; simp at e; omega
theorem ref_long {s : ByteArray} (m : Int) (h : 2 ≤ s.size) (h0 : 0 < s.size) : refL s.data.toList m = if (s[0].toNat : Int) = m then refN (numL (s.extract 1 s.size).data.toList) else (0, false) := by
  obtain ⟨c, d, r, h1, h2, h3⟩ := two_of h h0
  rw [h1, h2, h3]
  rfl
set_option maxRecDepth 100000 in
theorem ref_ok (s : ByteArray) (m : Int) (hs : s.size ≤ 281474976710656) (w : World) (hL : LaidW w) :
    Calls Tryd.prog 14 #[.string s, .int .u8 m] w fun e w' => e = .returned (.tuple #[.int .i64 (refL s.data.toList m).1, .bool (refL s.data.toList m).2]) ∧ Below w.heap.size w w' := by
  have hx : (s.extract 1 s.size).size ≤ 281474976710656 := by rw [ByteArray.size_extract]; omega
  by_cases hz : s.size < 2
  · rw [ref_short m hz]
    have hz1 : decide ((s.size : Int) < 2) = true := decide_eq_true (by omega)
    go_enter Tryd.func14, Tryd.ntmps14
    go_wp2_with (go_at_call 12; refine (num_ok _ hx _ hL).mono ?_; rintro e W1 ⟨rfl, hb⟩)
    all_goals first
      | (go_ret2; exact ⟨rfl, Below.refl _ _⟩)
      | (exfalso; omega)
  · have h0 : 0 < s.size := by omega
    rw [ref_long m (by omega) h0]
    by_cases hm : (s[0].toNat : Int) = m
    · rw [if_pos hm]
      have hm1 : ((s[0].toNat : Int) != m) = false := by rw [hm]; exact bne_self_eq_false ..
      generalize hX : numL (s.extract 1 s.size).data.toList = X
      obtain ⟨x, q⟩ := X
      go_enter Tryd.func14, Tryd.ntmps14
      go_wp2_with (go_at_call 12; refine (num_ok _ hx _ hL).mono ?_; rw [hX]; rintro e W1 ⟨rfl, hb⟩)
      all_goals first
        | (go_ret2; refine ⟨?_, hb⟩; unfold refN; simp_all; done)
        | (exfalso; simp_all; done)
        | (go_ret2; refine ⟨?_, hb⟩; unfold refN; rw [if_neg (fun h => by have h1 := h.2.1; have h2 := h.2.2; dsimp only at h1 h2; omega)]; rfl)
        | (exfalso; simp_all; omega)
    · rw [if_neg hm]
      have hm1 : ((s[0].toNat : Int) != m) = true := bne_iff_ne.2 hm
      go_enter Tryd.func14, Tryd.ntmps14
      go_wp2_with (go_at_call 12; refine (num_ok _ hx _ hL).mono ?_; rintro e W1 ⟨rfl, hb⟩)
      all_goals first
        | (go_ret2; exact ⟨rfl, Below.refl _ _⟩)
        | (exfalso; simp_all; done)
        | (exfalso; omega)
end Go.Proofs.YtggibjbcbicpjaaDoor.Num
