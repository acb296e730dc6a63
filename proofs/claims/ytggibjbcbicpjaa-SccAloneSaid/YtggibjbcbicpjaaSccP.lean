/- Graphs told as rows of numbers: who leads to whom. -/
import Derived.Test.YtggibjbcbicpjaaEvGo
namespace Go.Proofs.Ytggibjbcbicpjaa.Ev
open Go
set_option linter.unusedVariables false
inductive Rch (E : Nat → Nat → Prop) (a : Nat) : Nat → Prop
  | refl : Rch E a a
  | tail {b c : Nat} : Rch E a b → E b c → Rch E a c
theorem Rch.trans {E : Nat → Nat → Prop} {a b c : Nat} (h : Rch E a b) (g : Rch E b c) : Rch E a c := by
  induction g with
  | refl => exact h
  | tail _ e ih => exact ih.tail e
theorem Rch.one {E : Nat → Nat → Prop} {a b : Nat} (h : E a b) : Rch E a b := .tail .refl h
def Led (E : Nat → Nat → Prop) (a b : Nat) : Prop := ∃ c, E a c ∧ Rch E c b
theorem Led.rch {E : Nat → Nat → Prop} {a b : Nat} (h : Led E a b) : Rch E a b := by
  obtain ⟨c, h1, h2⟩ := h
  exact (Rch.one h1).trans h2
theorem Led.tail {E : Nat → Nat → Prop} {a b c : Nat} (h : Led E a b) (e : E b c) : Led E a c := by
  obtain ⟨d, h1, h2⟩ := h
  exact ⟨d, h1, h2.tail e⟩
theorem Led.one {E : Nat → Nat → Prop} {a b : Nat} (h : E a b) : Led E a b := ⟨b, h, .refl⟩
theorem Led.trans {E : Nat → Nat → Prop} {a b c : Nat} (h : Led E a b) (e : Rch E b c) : Led E a c := by
  obtain ⟨d, h1, h2⟩ := h
  exact ⟨d, h1, h2.trans e⟩
theorem Rch.cases' {E : Nat → Nat → Prop} {a b : Nat} (h : Rch E a b) : a = b ∨ Led E a b := by
  induction h with
  | refl => exact .inl rfl
  | tail _ e ih =>
    rcases ih with rfl | h
    · exact .inr (.one e)
    · exact .inr (h.tail e)
theorem Led.ind {E : Nat → Nat → Prop} {a b : Nat} (h : Led E a b) {P : Nat → Prop} (h0 : ∀ c, E a c → P c) (hs : ∀ b c, P b → E b c → P c) : P b := by
  obtain ⟨c, h1, h2⟩ := h
  induction h2 with
  | refl => exact h0 _ h1
  | tail _ e ih => exact hs _ _ ih e
/-- The ways of a graph. -/
def ed (g : List (List Int)) (a b : Nat) : Prop := a < g.length ∧ b < g.length ∧ (b : Int) ∈ g.getD a []
theorem ed_lt {g : List (List Int)} {a b : Nat} (h : ed g a b) : b < g.length := h.2.1
theorem rch_lt {g : List (List Int)} {a b : Nat} (h : Rch (ed g) a b) (ha : a < g.length) : b < g.length := by
  cases h with
  | refl => exact ha
  | tail _ e => exact e.2.1
open Classical in
noncomputable def ledB (g : List (List Int)) (a b : Nat) : Bool := decide (Led (ed g) a b)
open Classical in
theorem ledB_iff {g : List (List Int)} {a b : Nat} : ledB g a b = true ↔ Led (ed g) a b := by unfold ledB; exact decide_eq_true_iff
/-- Who is led to. -/
noncomputable def leadL (g : List (List Int)) (v : Int) : List Bool := if 0 ≤ v ∧ v < g.length then (List.range g.length).map (ledB g v.toNat) else List.replicate g.length false
noncomputable def recB (g : List (List Int)) (v : Int) : Bool := if 0 ≤ v ∧ v < g.length then ledB g v.toNat v.toNat else false
theorem leadL_len (g : List (List Int)) (v : Int) : (leadL g v).length = g.length := by
  unfold leadL
  split <;> simp
theorem leadL_get {g : List (List Int)} {v w : Nat} (hv : v < g.length) (hw : w < g.length) : (leadL g v).getD w false = ledB g v w := by
  unfold leadL
  rw [if_pos (by omega)]
  simp [List.getD_eq_getElem?_getD, hw]
theorem getD_in {α : Type} {l : List α} {i : Nat} {d : α} (h : i < l.length) : l.getD i d ∈ l := by
  rw [List.getD_eq_getElem?_getD, List.getElem?_eq_getElem h]
  exact List.getElem_mem h
theorem getD_set' {α : Type} {l : List α} {i j : Nat} {x d : α} (h : i < l.length) : (l.set i x).getD j d = if i = j then x else l.getD j d := by
  simp only [List.getD_eq_getElem?_getD, List.getElem?_set]
  split
  · rename_i e; subst e; simp [h]
  · rfl
theorem ext_getD {α : Type} {a b : List α} (d : α) (hl : a.length = b.length) (h : ∀ i, i < a.length → a.getD i d = b.getD i d) : a = b := by
  refine List.ext_getElem hl fun i h1 h2 => ?_
  have := h i h1
  rwa [List.getD_eq_getElem?_getD, List.getD_eq_getElem?_getD, List.getElem?_eq_getElem h1, List.getElem?_eq_getElem h2] at this
theorem mem_getD {α : Type} {l : List α} {x : α} (d : α) (h : x ∈ l) : ∃ i, i < l.length ∧ l.getD i d = x := by
  obtain ⟨i, hi, e⟩ := List.getElem_of_mem h
  exact ⟨i, hi, by rw [List.getD_eq_getElem?_getD, List.getElem?_eq_getElem hi]; exact e⟩
def falses (l : List Bool) : Nat := l.count false
theorem falses_set {l : List Bool} {i : Nat} (h : i < l.length) (hf : l.getD i false = false) : falses (l.set i true) + 1 = falses l := by
  unfold falses
  induction l generalizing i with
  | nil => simp at h
  | cons x l ih =>
    cases i with
    | zero =>
      simp only [List.getD_cons_zero] at hf
      subst hf
      simp
    | succ i =>
      simp only [List.getD_cons_succ] at hf
      simp only [List.length_cons] at h
      have := ih (by omega) hf
      rw [List.set_cons_succ, List.count_cons, List.count_cons]
      omega
end Go.Proofs.Ytggibjbcbicpjaa.Ev
