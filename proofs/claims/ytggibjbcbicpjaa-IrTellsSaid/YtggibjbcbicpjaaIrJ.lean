/- What is made neat: plain lists. -/
import Derived.Test.YtggibjbcbicpjaaIrI
namespace Go.Proofs.Ytggibjbcbicpjaa.Ev
open Go
set_option linter.unusedVariables false
set_option linter.unusedSimpArgs false
theorem keyEq_key (a : Int) (k : Value) : keyEq (key a) k = true ↔ ∃ q, k = .int q a := by
  unfold key keyEq
  cases k with
  | int q b => simp only [decide_eq_true_eq]; constructor
               · rintro rfl; exact ⟨q, rfl⟩
               · rintro ⟨q', e⟩; injection e with _ e; exact e.symm
  | _ => simp
theorem mget_mput (l : List (Value × Int)) (a b v : Int) : mget (mput l (key a) v) (key b) = if b = a then some v else mget l (key b) := by
  induction l with
  | nil =>
    by_cases h : b = a
    · subst h; rw [if_pos rfl]; unfold mput mget; rw [(keyEq_key b (key b)).2 ⟨_, rfl⟩]
    · rw [if_neg h]
      unfold mput mget
      have : keyEq (key b) (key a) = false := by
        cases e : keyEq (key b) (key a) with
        | false => rfl
        | true => obtain ⟨q, e⟩ := (keyEq_key b (key a)).1 e; unfold key at e; injection e with _ e; exact absurd e.symm h
      rw [this]
      rfl
  | cons x l ih =>
    obtain ⟨k, w⟩ := x
    cases e : keyEq (key a) k with
    | true =>
      obtain ⟨q, rfl⟩ := (keyEq_key a k).1 e
      simp only [mput, e]
      by_cases h : b = a
      · subst h
        rw [if_pos rfl]
        unfold mget
        rw [e]
      · rw [if_neg h]
        have : keyEq (key b) (.int q a) = false := by
          cases e : keyEq (key b) (.int q a) with
          | false => rfl
          | true => obtain ⟨q', e⟩ := (keyEq_key b _).1 e; injection e with _ e; exact absurd e.symm h
        simp only [mget, this]
    | false =>
      simp only [mput, e]
      cases e2 : keyEq (key b) k with
      | true =>
        have h : b ≠ a := by rintro rfl; rw [e] at e2; cases e2
        rw [if_neg h]
        simp only [mget, e2]
      | false =>
        simp only [mget, e2]
        exact ih
/-- What a map tells lies between two numbers. -/
theorem subI_num (m : List (Value × Int)) (p n : Nat) (i : Ev.Ins) : (subI m p (num1 n i)).type_ = i.type_ ∧ (subI m p (num1 n i)).args.length = i.args.length ∧ (subI m p (num1 n i)).into.length = i.into.length ∧ (subI m p (num1 n i)).op = i.op := by
  obtain ⟨h1, h2⟩ := riseL i
  obtain ⟨h3, _, h4⟩ := risI_type i
  refine ⟨h3, ?_, h2, h4⟩
  show ((risI i).args.map _).length = _
  rw [List.length_map, h1]
section
variable {m : List (Value × Int)} {p : Nat}
theorem outL_len : ∀ (l : List Ev.Ins) (n : Nat), ((numL n l).map (subI m p)).length = l.length
  | [], n => rfl
  | i :: l, n => by
    rw [numL, List.map_cons, List.length_cons, List.length_cons, outL_len l]
theorem outB_len : ∀ (l : List Ev.Block) (n : Nat), ((numB n l).map (subB m p)).length = l.length
  | [], n => rfl
  | b :: l, n => by
    rw [numB, List.map_cons, List.length_cons, List.length_cons, outB_len l]
theorem outL_ok : ∀ (l : List Ev.Ins) (n : Nat), (∀ i, i ∈ l → okIns i) → ∀ i, i ∈ (numL n l).map (subI m p) → okIns i
  | [], n, h, i, hi => by cases hi
  | x :: l, n, h, i, hi => by
    rw [numL, List.map_cons] at hi
    rcases List.mem_cons.1 hi with rfl | hi
    · obtain ⟨_, h1, h2, _⟩ := subI_num m p n x
      have := h x List.mem_cons_self
      unfold okIns at this ⊢
      omega
    · exact outL_ok l _ (fun i hi => h i (List.mem_cons_of_mem _ hi)) i hi
theorem outB_ok : ∀ (l : List Ev.Block) (n : Nat), (∀ b, b ∈ l → okBl b) → ∀ b, b ∈ (numB n l).map (subB m p) → okBl b
  | [], n, h, b, hb => by cases hb
  | x :: l, n, h, b, hb => by
    rw [numB, List.map_cons] at hb
    rcases List.mem_cons.1 hb with rfl | hb
    · obtain ⟨h1, h2⟩ := h x List.mem_cons_self
      refine ⟨?_, outL_ok x.ins n h2⟩
      show ((numL n x.ins).map (subI m p)).length ≤ 1000
      rw [outL_len]
      exact h1
    · exact outB_ok l _ (fun i hi => h i (List.mem_cons_of_mem _ hi)) b hb
end
theorem neatF_ok {f : Ev.Func} (h : okF f) : okF (neatF f) := by
  refine ⟨h.1, ?_, outB_ok f.blocks _ h.2.2⟩
  show (neatB _ _).length ≤ 1000
  unfold neatB
  rw [outB_len]
  exact h.2.1
end Go.Proofs.Ytggibjbcbicpjaa.Ev
