/- What is made neat: plain lists. -/
import Derived.Test.YtggibjbcbicpjaaIrI
namespace Go.Proofs.Ytggibjbcbicpjaa.Ev
open Go
set_option linter.unusedVariables false
set_option linter.unusedSimpArgs false
theorem keyEq_key (a : Int) (k : Value) : keyEq (key a) k = true ↔ ∃ q, k = .int q a := by
  unfold key keyEq
  cases k with
  | int q b => simp only [decide_eq_true_eq]; constructor
               · rintro rfl; exact ⟨q, rfl⟩
               · rintro ⟨q', e⟩; injection e with _ e; exact e.symm
  | _ => simp
theorem mget_mput (l : List (Value × Int)) (a b v : Int) : mget (mput l (key a) v) (key b) = if b = a then some v else mget l (key b) := by
  induction l with
  | nil =>
    by_cases h : b = a
    · subst h; rw [if_pos rfl]; unfold mput mget; rw [(keyEq_key b (key b)).2 ⟨_, rfl⟩]
    · rw [if_neg h]
      unfold mput mget
      have : keyEq (key b) (key a) = false := by
        cases e : keyEq (key b) (key a) with
        | false => rfl
        | true => obtain ⟨q, e⟩ := (keyEq_key b (key a)).1 e; unfold key at e; injection e with _ e; exact absurd e.symm h
      rw [this]
      rfl
  | cons x l ih =>
    obtain ⟨k, w⟩ := x
    cases e : keyEq (key a) k with
    | true =>
      obtain ⟨q, rfl⟩ := (keyEq_key a k).1 e
      simp only [mput, e]
      by_cases h : b = a
      · subst h
        rw [if_pos rfl]
        unfold mget
        rw [e]
      · rw [if_neg h]
        have : keyEq (key b) (.int q a) = false := by
          cases e : keyEq (key b) (.int q a) with
          | false => rfl
          | true => obtain ⟨q', e⟩ := (keyEq_key b _).1 e; injection e with _ e; exact absurd e.symm h
        simp only [mget, this]
    | false =>
      simp only [mput, e]
      cases e2 : keyEq (key b) k with
      | true =>
        have h : b ≠ a := by rintro rfl; rw [e] at e2; cases e2
        rw [if_neg h]
        simp only [mget, e2]
      | false =>
        simp only [mget, e2]
        exact ih
/-- What a map tells lies between two numbers. -/
def InR (m : List (Value × Int)) (p n : Nat) : Prop := ∀ k v, mget m (key k) = some v → (p : Int) < v ∧ v ≤ n
theorem InR.step {m : List (Value × Int)} {p n : Nat} (h : InR m p n) (hp : p ≤ n) (i : Ev.Ins) : InR (map1 m n i) p (step1 n i) := by
  unfold map1 step1
  by_cases ht : i.type_ = 0
  · rw [if_pos ht, if_pos ht]; exact h
  · rw [if_neg ht, if_neg ht]
    have h' : InR m p (n + 1) := fun k v e => by have := h k v e; omega
    split
    · exact h'
    · intro k v e
      rw [mget_mput] at e
      split at e
      · cases e; omega
      · exact h' k v e
theorem InR.row {p : Nat} : ∀ (l : List Ev.Ins) (m : List (Value × Int)) (n : Nat), p ≤ n → InR m p n → InR (mapL m n l) p (stepL n l)
  | [], m, n, _, h => h
  | i :: l, m, n, hp, h => InR.row l (map1 m n i) (step1 n i) (by unfold step1; split <;> omega) (h.step hp i)
theorem InR.all {p : Nat} : ∀ (l : List Ev.Block) (m : List (Value × Int)) (n : Nat), p ≤ n → InR m p n → InR (mapB m n l) p (stepB n l)
  | [], m, n, _, h => h
  | b :: l, m, n, hp, h => InR.all l (mapL m n b.ins) (stepL n b.ins) (by have := stepL_le b.ins n; omega) (InR.row b.ins m n hp h)
theorem stepL_len : ∀ (l : List Ev.Ins) (n : Nat), stepL n l = n + (tyI l).length
  | [], n => rfl
  | i :: l, n => by
    rw [stepL, stepL_len l]
    unfold step1 tyI
    rw [List.filter_cons]
    by_cases h : i.type_ = 0
    · rw [if_pos h, if_neg (by simp [h])]
    · rw [if_neg h, if_pos (by simp [h])]
      simp only [List.map_cons, List.length_cons]
      omega
theorem stepB_len : ∀ (l : List Ev.Block) (n : Nat), stepB n l = n + (tyB l).length
  | [], n => rfl
  | b :: l, n => by
    rw [stepB, stepB_len l, stepL_len]
    simp only [tyB, List.map_cons, List.flatten_cons, List.length_append]
    omega
theorem subI_num (m : List (Value × Int)) (p n : Nat) (i : Ev.Ins) : (subI m p (num1 n i)).type_ = i.type_ ∧ (subI m p (num1 n i)).args.length = i.args.length ∧ (subI m p (num1 n i)).into.length = i.into.length ∧ (subI m p (num1 n i)).op = i.op := by
  obtain ⟨h1, h2⟩ := riseL i
  obtain ⟨h3, _, h4⟩ := risI_type i
  refine ⟨h3, ?_, h2, h4⟩
  show ((risI i).args.map _).length = _
  rw [List.length_map, h1]
section
variable {m : List (Value × Int)} {p : Nat}
theorem outL_len : ∀ (l : List Ev.Ins) (n : Nat), ((numL n l).map (subI m p)).length = l.length
  | [], n => rfl
  | i :: l, n => by
    rw [numL, List.map_cons, List.length_cons, List.length_cons, outL_len l]
theorem outL_ty : ∀ (l : List Ev.Ins) (n : Nat), tyI ((numL n l).map (subI m p)) = tyI l
  | [], n => rfl
  | i :: l, n => by
    have ih := outL_ty l (step1 n i)
    have e := (subI_num m p n i).1
    unfold tyI at ih ⊢
    rw [numL, List.map_cons, List.filter_cons, List.filter_cons, e]
    split
    · rw [List.map_cons, List.map_cons, ih, e]
    · exact ih
theorem outB_len : ∀ (l : List Ev.Block) (n : Nat), ((numB n l).map (subB m p)).length = l.length
  | [], n => rfl
  | b :: l, n => by
    rw [numB, List.map_cons, List.length_cons, List.length_cons, outB_len l]
theorem outB_sz : ∀ (l : List Ev.Block) (n : Nat), szT ((numB n l).map (subB m p)) = szT l
  | [], n => rfl
  | b :: l, n => by
    have ih := outB_sz l (stepL n b.ins)
    have e := outL_len (m := m) (p := p) b.ins n
    unfold szT at ih ⊢
    rw [numB, List.map_cons, List.map_cons, List.map_cons, List.sum_cons, List.sum_cons, ih]
    show ((numL n b.ins).map (subI m p)).length + _ = _
    rw [e]
theorem outB_ty : ∀ (l : List Ev.Block) (n : Nat), tyB ((numB n l).map (subB m p)) = tyB l
  | [], n => rfl
  | b :: l, n => by
    have ih := outB_ty l (stepL n b.ins)
    unfold tyB at ih ⊢
    rw [numB, List.map_cons, List.map_cons, List.map_cons, List.flatten_cons, List.flatten_cons, ih]
    show tyI ((numL n b.ins).map (subI m p)) ++ _ = _
    rw [outL_ty]
theorem outL_ok : ∀ (l : List Ev.Ins) (n : Nat), (∀ i, i ∈ l → okIns i) → ∀ i, i ∈ (numL n l).map (subI m p) → okIns i
  | [], n, h, i, hi => by cases hi
  | x :: l, n, h, i, hi => by
    rw [numL, List.map_cons] at hi
    rcases List.mem_cons.1 hi with rfl | hi
    · obtain ⟨_, h1, h2, _⟩ := subI_num m p n x
      have := h x List.mem_cons_self
      unfold okIns at this ⊢
      omega
    · exact outL_ok l _ (fun i hi => h i (List.mem_cons_of_mem _ hi)) i hi
theorem outB_ok : ∀ (l : List Ev.Block) (n : Nat), (∀ b, b ∈ l → okBl b) → ∀ b, b ∈ (numB n l).map (subB m p) → okBl b
  | [], n, h, b, hb => by cases hb
  | x :: l, n, h, b, hb => by
    rw [numB, List.map_cons] at hb
    rcases List.mem_cons.1 hb with rfl | hb
    · obtain ⟨h1, h2⟩ := h x List.mem_cons_self
      refine ⟨?_, outL_ok x.ins n h2⟩
      show ((numL n x.ins).map (subI m p)).length ≤ 1000
      rw [outL_len]
      exact h1
    · exact outB_ok l _ (fun i hi => h i (List.mem_cons_of_mem _ hi)) b hb
theorem risI_out (n : Nat) (i : Ev.Ins) : risI (subI m p (num1 n i)) = subI m p (num1 n i) := by
  obtain ⟨_, h1, h2, h3⟩ := subI_num m p n i
  unfold risI
  split
  · rename_i hc
    rw [h1, h2, h3] at hc
    have e : (subI m p (num1 n i)).into = (riseF i.args i.into).2 := by
      show (risI i).into = _
      unfold risI
      rw [if_pos hc]
    rw [e, riseF_twice, ← e]
  · rfl
theorem num1_of (n : Nat) {y : Ev.Ins} (h : risI y = y) : num1 n y = ⟨y.op, y.type_, if y.type_ = 0 then 0 else ((n + 1 : Nat) : Int), y.sym_, y.num, y.args, y.into⟩ := by
  unfold num1
  rw [h]
theorem num_out (n : Nat) (i : Ev.Ins) : num1 n (subI m p (num1 n i)) = subI m p (num1 n i) := by
  have h1 := (subI_num m p n i).1
  have h2 : (if (subI m p (num1 n i)).type_ = 0 then (0 : Int) else ((n + 1 : Nat) : Int)) = (subI m p (num1 n i)).to_ := by rw [h1]; rfl
  rw [num1_of n (risI_out n i), h2]
theorem step_out (n : Nat) (i : Ev.Ins) : step1 n (subI m p (num1 n i)) = step1 n i := by
  unfold step1
  rw [(subI_num m p n i).1]
theorem numL_out : ∀ (l : List Ev.Ins) (n : Nat), numL n ((numL n l).map (subI m p)) = (numL n l).map (subI m p)
  | [], n => rfl
  | i :: l, n => by
    rw [numL, List.map_cons, numL, num_out, step_out, numL_out l]
theorem stepL_out (l : List Ev.Ins) (n : Nat) : stepL n ((numL n l).map (subI m p)) = stepL n l := by
  rw [stepL_len, stepL_len, outL_ty]
theorem numB_out : ∀ (l : List Ev.Block) (n : Nat), numB n ((numB n l).map (subB m p)) = (numB n l).map (subB m p)
  | [], n => rfl
  | b :: l, n => by
    rw [numB, List.map_cons, numB]
    show Block.mk (numL n ((numL n b.ins).map (subI m p))) :: numB (stepL n ((numL n b.ins).map (subI m p))) _ = _
    rw [numL_out, stepL_out, numB_out l]
    rfl
/-- A map that tells each number between two its own. -/
def Self (m : List (Value × Int)) (p n : Nat) : Prop := ∀ k : Int, mget m (key k) = if (p : Int) < k ∧ k ≤ n then some k else none
theorem Self.step {m2 : List (Value × Int)} {n : Nat} (h : Self m2 p n) (hp : p ≤ n) (i : Ev.Ins) : Self (map1 m2 n (subI m p (num1 n i))) p (step1 n i) := by
  have h1 := (subI_num m p n i).1
  have h2 : (subI m p (num1 n i)).to_ = if i.type_ = 0 then 0 else ((n + 1 : Nat) : Int) := rfl
  unfold map1 step1
  rw [h1, h2]
  by_cases ht : i.type_ = 0
  · rw [if_pos ht, if_pos ht]; exact h
  · rw [if_neg ht, if_neg ht, if_neg ht, h, if_neg (by omega)]
    intro k
    rw [mget_mput, h]
    by_cases e : k = ((n + 1 : Nat) : Int)
    · rw [if_pos e, if_pos (by omega), e]
    · rw [if_neg e]
      by_cases e2 : (p : Int) < k ∧ k ≤ n
      · rw [if_pos e2, if_pos (by omega)]
      · rw [if_neg e2, if_neg (by omega)]
theorem Self.row : ∀ (l : List Ev.Ins) (m2 : List (Value × Int)) (n : Nat), p ≤ n → Self m2 p n → Self (mapL m2 n ((numL n l).map (subI m p))) p (stepL n l)
  | [], m2, n, _, h => h
  | i :: l, m2, n, hp, h => by
    rw [numL, List.map_cons, mapL, stepL, step_out]
    exact Self.row l _ _ (by unfold step1; split <;> omega) (h.step hp i)
theorem Self.all : ∀ (l : List Ev.Block) (m2 : List (Value × Int)) (n : Nat), p ≤ n → Self m2 p n → Self (mapB m2 n ((numB n l).map (subB m p))) p (stepB n l)
  | [], m2, n, _, h => h
  | b :: l, m2, n, hp, h => by
    rw [numB, List.map_cons, mapB, stepB]
    show Self (mapB (mapL m2 n ((numL n b.ins).map (subI m p))) (stepL n ((numL n b.ins).map (subI m p))) _) _ _
    rw [stepL_out]
    exact Self.all l _ _ (by have := stepL_le b.ins n; omega) (Self.row b.ins m2 n hp h)
theorem subV_twice {m2 : List (Value × Int)} {n : Nat} (hm : InR m p n) (h : Self m2 p n) (v : Int) : subV m2 p (subV m p v) = subV m p v := by
  by_cases h1 : 1 ≤ v ∧ v ≤ p
  · have e : subV m p v = v := by unfold subV; rw [if_pos h1]
    rw [e]; unfold subV; rw [if_pos h1]
  · have e : subV m p v = (mget m (key v)).getD 0 := by unfold subV; rw [if_neg h1]
    rw [e]
    cases hk : mget m (key v) with
    | none =>
      show subV m2 p 0 = 0
      unfold subV
      rw [if_neg (by omega), h, if_neg (by omega)]
      rfl
    | some x =>
      have := hm v x hk
      show subV m2 p x = x
      unfold subV
      rw [if_neg (by omega), h, if_pos this]
      rfl
end
theorem neatB_twice (p : Nat) (l : List Ev.Block) : neatB p (neatB p l) = neatB p l := by
  have h1 : InR (mapB [] p l) p (stepB p l) := InR.all l [] p (Nat.le_refl _) fun k v e => by cases e
  have h2 : Self (mapB [] p (neatB p l)) p (stepB p l) := Self.all l [] p (Nat.le_refl _) fun k => by rw [if_neg (by omega)]; rfl
  show List.map (subB (mapB [] p (neatB p l)) p) (numB p (neatB p l)) = neatB p l
  rw [show numB p (neatB p l) = neatB p l from numB_out l p]
  show List.map _ ((numB p l).map _) = (numB p l).map _
  rw [List.map_map]
  refine List.map_congr_left fun b _ => ?_
  show Block.mk ((b.ins.map _).map _) = Block.mk (b.ins.map _)
  rw [List.map_map]
  congr 1
  refine List.map_congr_left fun i _ => ?_
  show (⟨_, _, _, _, _, (i.args.map _).map _, _⟩ : Ev.Ins) = ⟨_, _, _, _, _, i.args.map _, _⟩
  rw [List.map_map]
  congr 1
  refine List.map_congr_left fun v _ => ?_
  exact subV_twice h1 h2 v
theorem neatF_ok {f : Ev.Func} (h : okF f) : okF (neatF f) := by
  refine ⟨h.1, ?_, outB_ok f.blocks _ h.2.2⟩
  show (neatB _ _).length ≤ 1000
  unfold neatB
  rw [outB_len]
  exact h.2.1
theorem subV_in {m : List (Value × Int)} {p n : Nat} (hp : p ≤ n) (h : InR m p n) (v : Int) : 0 ≤ subV m p v ∧ subV m p v ≤ n := by
  unfold subV
  split
  · omega
  · cases hk : mget m (key v) with
    | none => exact ⟨Int.le_refl _, by show (0 : Int) ≤ n; omega⟩
    | some x => have := h v x hk; show 0 ≤ x ∧ x ≤ n; omega
end Go.Proofs.Ytggibjbcbicpjaa.Ev
