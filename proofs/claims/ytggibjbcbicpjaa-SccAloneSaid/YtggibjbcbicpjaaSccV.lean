/- scc.Of's second part: its rows are the sets, and free finds who may be told. -/
import Derived.Test.YtggibjbcbicpjaaSccU
namespace Go.Proofs.Ytggibjbcbicpjaa.Ev
open Go
set_option linter.unusedVariables false
set_option linter.unusedSimpArgs false
def rowsAt (E : List Nat) (sn k : Nat) : List (List Int) := (List.range sn).map fun s => intL ((List.range k).filter fun v => E.getD v 0 == s)
theorem rowsAt_len (E : List Nat) (sn k : Nat) : (rowsAt E sn k).length = sn := by simp [rowsAt]
theorem rowsAt_get {E : List Nat} {sn k s : Nat} (h : s < sn) : (rowsAt E sn k).getD s [] = intL ((List.range k).filter fun v => E.getD v 0 == s) := by
  simp [rowsAt, List.getD_eq_getElem?_getD, h]
theorem rowsAt_zero (E : List Nat) (sn : Nat) : List.replicate sn [] = rowsAt E sn 0 := by
  refine ext_getD [] (by simp [rowsAt]) fun i hi => ?_
  have : i < sn := by simpa using hi
  rw [rowsAt_get this]
  simp [List.getD_eq_getElem?_getD, this, intL]
theorem rowsAt_step {E : List Nat} {sn k : Nat} (h : E.getD k 0 < sn) : (rowsAt E sn k).set (E.getD k 0) ((rowsAt E sn k).getD (E.getD k 0) [] ++ [(k : Int)]) = rowsAt E sn (k + 1) := by
  refine ext_getD [] (by simp [rowsAt]) fun i hi => ?_
  have hs : i < sn := by simpa [rowsAt] using hi
  rw [getD_set' (by rw [rowsAt_len]; exact h), rowsAt_get h, rowsAt_get hs, rowsAt_get hs, intL_app, List.range_succ, List.filter_append]
  by_cases e : E.getD k 0 = i
  · rw [if_pos e, ← e]
    simp
  · rw [if_neg e]
    have : (E.getD k 0 == i) = false := by simpa using e
    rw [List.filter_cons_of_neg (by rw [this]; simp), List.filter_nil, List.append_nil]
structure Done (g : List (List Int)) (E : List Nat) (sn : Nat) : Prop where
  len : E.length = g.length
  lt : ∀ a, a < g.length → E.getD a 0 < sn
  same : ∀ a b, a < g.length → b < g.length → (E.getD a 0 = E.getD b 0 ↔ Mate g a b)
  full : ∀ s, s < sn → ∃ a, a < g.length ∧ E.getD a 0 = s
def ToldS (E : List Nat) (sn : Nat) (told : List Bool) (o : List (List Nat)) : Prop := told.length = sn ∧ (∀ s, s < sn → (told.getD s false = true ↔ ∃ w, w ∈ o.flatten ∧ E.getD w 0 = s)) ∧ o.length + falses told = sn
section
variable {g : List (List Int)} {E : List Nat} {sn : Nat} {told : List Bool} {o : List (List Nat)} {v : Nat}
theorem Done.row (D : Done g E sn) (hv : v < g.length) : (rowsAt E sn g.length).getD (E.getD v 0) [] = intL (cls g v) := by
  classical
  rw [rowsAt_get (D.lt v hv)]
  unfold cls
  congr 1
  refine List.filter_congr fun w hw => ?_
  rw [List.mem_range] at hw
  rw [Bool.eq_iff_iff, beq_iff_eq, decide_eq_true_eq, eq_comm]
  exact D.same v w hv hw
theorem Done.tld (D : Done g E sn) (T : ToldS E sn told o) (W : Way g o) (hv : v < g.length) : told.getD (E.getD v 0) false = true ↔ v ∈ o.flatten := by
  rw [T.2.1 _ (D.lt v hv)]
  constructor
  · rintro ⟨w, h1, h2⟩
    exact W.closed w v h1 ((D.same w v (W.lt w h1) hv).1 h2).1
  · intro h
    exact ⟨v, h, rfl⟩
theorem Done.ready (D : Done g E sn) (T : ToldS E sn told o) (W : Way g o) (hv : v < g.length) : Ready g o v ↔ told.getD (E.getD v 0) false = false ∧ freeP g (intL E) (intL (cls g v)) told := by
  rw [← Bool.not_eq_true, D.tld T W hv]
  unfold Ready freeP wayOk
  constructor
  · rintro ⟨_, h1, h2⟩
    refine ⟨h1, fun x hx y hy y0 y1 hn => ?_⟩
    obtain ⟨w, hw, rfl⟩ := of_intL hx
    obtain ⟨z, rfl⟩ : ∃ z : Nat, y = z := ⟨y.toNat, by omega⟩
    simp only [Int.toNat_natCast, intL_getD] at hy hn ⊢
    obtain ⟨w1, w2⟩ := mem_cls.1 hw
    have hz : z < g.length := by omega
    rw [D.tld T W hz]
    have e1 : ed g w z := ⟨w1, hz, hy⟩
    refine h2 z (w2.1.tail e1) fun hr => hn ?_
    have := (D.same z w hz w1).2 ⟨hr.trans w2.1, .one e1⟩
    rw [this]
  · rintro ⟨h1, h2⟩
    refine ⟨hv, h1, fun w hw hn => ?_⟩
    have key : ∀ w, Rch (ed g) v w → Rch (ed g) w v ∨ w ∈ o.flatten := fun w hw => by
      induction hw with
      | refl => exact .inl .refl
      | tail hb e ih =>
        rename_i b c
        rcases ih with ih | ih
        · by_cases hr : Rch (ed g) c v
          · exact .inl hr
          · have hb1 : b ∈ cls g v := mem_cls.2 ⟨e.1, hb, ih⟩
            have := h2 b (mem_intL.2 hb1) c (by rw [Int.toNat_natCast]; exact e.2.2) (by omega) (by have := e.2.1; omega) (by
              simp only [Int.toNat_natCast, intL_getD]
              intro hc
              have : E.getD c 0 = E.getD b 0 := by omega
              exact hr (((D.same c b e.2.1 e.1).1 this).1.trans ih))
            simp only [Int.toNat_natCast, intL_getD] at this
            exact .inr ((D.tld T W e.2.1).1 this)
        · exact .inr (W.closed _ _ ih (.one e))
    exact (key w hw).resolve_left hn
theorem Done.tell (D : Done g E sn) (T : ToldS E sn told o) (W : Way g o) (h : Next g o v) : ToldS E sn (told.set (E.getD v 0) true) (o ++ [cls g v]) := by
  have hv := h.1.1
  have hs := D.lt v hv
  have hf : told.getD (E.getD v 0) false = false := by
    rw [← Bool.not_eq_true, D.tld T W hv]; exact h.1.2.1
  have h1 := T.1
  refine ⟨by rw [List.length_set]; exact T.1, fun s hs' => ?_, ?_⟩
  · rw [getD_set' (by omega), flat_snoc]
    by_cases e : E.getD v 0 = s
    · rw [if_pos e]
      exact ⟨fun _ => ⟨v, List.mem_append_right _ (cls_ne hv), e⟩, fun _ => rfl⟩
    · rw [if_neg e, T.2.1 s hs']
      constructor
      · rintro ⟨w, a, b⟩; exact ⟨w, List.mem_append_left _ a, b⟩
      · rintro ⟨w, a, b⟩
        rcases List.mem_append.1 a with a | a
        · exact ⟨w, a, b⟩
        · obtain ⟨a1, a2⟩ := mem_cls.1 a
          exact absurd (((D.same v w hv a1).2 a2).trans b) e
  · have := falses_set (l := told) (i := E.getD v 0) (by omega) hf
    have := T.2.2
    simp only [List.length_append, List.length_cons, List.length_nil]
    omega
theorem falses_some : ∀ {l : List Bool}, 0 < falses l → ∃ i, i < l.length ∧ l.getD i false = false
  | [], h => by simp [falses] at h
  | false :: l, h => ⟨0, by simp, rfl⟩
  | true :: l, h => by
    obtain ⟨i, h1, h2⟩ := falses_some (l := l) (by simpa [falses] using h)
    exact ⟨i + 1, by simpa using h1, by simpa using h2⟩
theorem falses_none : ∀ {l : List Bool}, falses l = 0 → ∀ i, i < l.length → l.getD i false = true
  | [], h, i, hi => by simp at hi
  | false :: l, h, i, hi => by simp [falses] at h
  | true :: l, h, 0, hi => rfl
  | true :: l, h, i + 1, hi => by
    have := falses_none (l := l) (by simpa [falses] using h) i (by simpa using hi)
    simpa using this
theorem Done.next (D : Done g E sn) (T : ToldS E sn told o) (W : Way g o) (h : o.length < sn) : ∃ v, Next g o v := by
  refine next_some fun hf => ?_
  have := T.2.2
  obtain ⟨i, h1, h2⟩ := falses_some (l := told) (by omega)
  have h3 := T.1
  obtain ⟨a, a1, a2⟩ := D.full i (by omega)
  have := (D.tld T W a1).2 (hf a a1)
  rw [a2, h2] at this
  cases this
theorem Done.end (D : Done g E sn) (T : ToldS E sn told o) (W : Way g o) (h : ¬ o.length < sn) : o = setsN g := by
  refine setsN_eq W fun v hv => (D.tld T W hv).1 ?_
  have := T.2.2
  exact falses_none (by omega) _ (by have := D.lt v hv; have := T.1; omega)
theorem ToldS.init (E : List Nat) (sn : Nat) : ToldS E sn (List.replicate sn false) [] := by
  refine ⟨by simp, fun s hs => ?_, by simp [falses]⟩
  simp [List.getD_eq_getElem?_getD, hs]
end
end Go.Proofs.Ytggibjbcbicpjaa.Ev
