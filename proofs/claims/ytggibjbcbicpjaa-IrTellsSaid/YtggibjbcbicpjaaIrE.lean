/- ir.rise: a Phi's entries, rising. -/
import Derived.Test.YtggibjbcbicpjaaIrD
namespace Go.Proofs.Ytggibjbcbicpjaa.Ev
open Go
set_option linter.unusedVariables false
set_option linter.unusedSimpArgs false
def swp (l : List Int) (j : Nat) : List Int := (l.set (j + 1) (l.getD j 0)).set j (l.getD (j + 1) 0)
def inn : Nat → List Int × List Int → List Int × List Int
  | 0, s => s
  | j + 1, s => if s.2.getD (j + 1) 0 < s.2.getD j 0 then inn j (swp s.1 j, swp s.2 j) else s
def risen : Nat → List Int × List Int → List Int × List Int
  | 0, s => s
  | k + 1, s => inn (k + 1) (risen k s)
theorem swp_len (l : List Int) (j : Nat) : (swp l j).length = l.length := by simp [swp]
theorem inn_len : ∀ (j : Nat) (s : List Int × List Int), (inn j s).1.length = s.1.length ∧ (inn j s).2.length = s.2.length
  | 0, s => ⟨rfl, rfl⟩
  | j + 1, s => by
    unfold inn
    split
    · have := inn_len j (swp s.1 j, swp s.2 j)
      simpa [swp_len] using this
    · exact ⟨rfl, rfl⟩
theorem risen_len : ∀ (k : Nat) (s : List Int × List Int), (risen k s).1.length = s.1.length ∧ (risen k s).2.length = s.2.length
  | 0, s => ⟨rfl, rfl⟩
  | k + 1, s => by
    have h1 := inn_len (k + 1) (risen k s)
    have h2 := risen_len k s
    exact ⟨h1.1.trans h2.1, h1.2.trans h2.2⟩
theorem swp_get {l : List Int} {j : Nat} (h : j + 1 < l.length) (i : Nat) : (swp l j).getD i 0 = if i = j then l.getD (j + 1) 0 else if i = j + 1 then l.getD j 0 else l.getD i 0 := by
  simp only [swp, List.getD_eq_getElem?_getD, List.getElem?_set, List.length_set]
  by_cases h1 : i = j
  · subst h1
    rw [if_pos rfl, if_pos (by omega), if_pos rfl]
    rfl
  · rw [if_neg (by omega), if_neg h1]
    by_cases h2 : i = j + 1
    · subst h2
      rw [if_pos rfl, if_pos h, if_pos rfl]
      rfl
    · rw [if_neg (by omega), if_neg h2]
/-- All neighbours up to n stand in order, but for j and the one ahead of it. -/
def Near (t : List Int) (n j : Nat) : Prop := (∀ i, i + 1 ≤ n → i + 1 ≠ j → t.getD i 0 ≤ t.getD (i + 1) 0) ∧ (∀ i, j = i + 1 → j + 1 ≤ n → t.getD i 0 ≤ t.getD (j + 1) 0)
def Sorted (t : List Int) (n : Nat) : Prop := ∀ i, i + 1 ≤ n → t.getD i 0 ≤ t.getD (i + 1) 0
theorem inn_sorts : ∀ (j : Nat) (s : List Int × List Int) (n : Nat), n < s.2.length → j ≤ n → Near s.2 n j → Sorted (inn j s).2 n
  | 0, s, n, _, _, h => fun i hi => h.1 i hi (by omega)
  | j + 1, s, n, hl, hj, h => by
    unfold inn
    split
    · rename_i hlt
      refine inn_sorts j _ n (by rw [swp_len]; exact hl) (by omega) ⟨fun i hi hn => ?_, fun i e hi => ?_⟩
      · show (swp s.2 j).getD i 0 ≤ (swp s.2 j).getD (i + 1) 0
        rw [swp_get (by omega), swp_get (by omega)]
        by_cases h1 : i = j
        · subst h1
          rw [if_pos rfl, if_neg (by omega), if_pos rfl]
          omega
        · rw [if_neg h1]
          by_cases h2 : i = j + 1
          · subst h2
            rw [if_pos rfl, if_neg (by omega), if_neg (by omega)]
            exact h.2 j rfl hi
          · rw [if_neg h2, if_neg (by omega), if_neg (by omega)]
            exact h.1 i hi (by omega)
      · show (swp s.2 j).getD i 0 ≤ (swp s.2 j).getD (j + 1) 0
        subst e
        rw [swp_get (by omega), swp_get (by omega), if_neg (by omega), if_neg (by omega), if_neg (by omega), if_pos rfl]
        exact h.1 i (by omega) (by omega)
    · rename_i hlt
      intro i hi
      by_cases e : i = j
      · subst e; omega
      · exact h.1 i hi (by omega)
theorem risen_sorts : ∀ (k : Nat) (s : List Int × List Int), k < s.2.length → Sorted (risen k s).2 k
  | 0, s, _ => fun i hi => by omega
  | k + 1, s, h => by
    have ih := risen_sorts k s (by omega)
    have hl := (risen_len k s).2
    exact inn_sorts (k + 1) (risen k s) (k + 1) (by omega) (Nat.le_refl _) ⟨fun i hi hn => ih i (by omega), fun i e hi => by omega⟩
theorem inn_still {j : Nat} {s : List Int × List Int} (h : ∀ i, j = i + 1 → s.2.getD i 0 ≤ s.2.getD j 0) : inn j s = s := by
  cases j with
  | zero => rfl
  | succ j =>
    unfold inn
    rw [if_neg (by have := h j rfl; omega)]
theorem risen_still : ∀ (k : Nat) (s : List Int × List Int), Sorted s.2 k → risen k s = s
  | 0, s, _ => rfl
  | k + 1, s, h => by
    unfold risen
    rw [risen_still k s fun i hi => h i (by omega)]
    exact inn_still fun i e => by cases e; exact h k (Nat.le_refl _)
def riseF (a t : List Int) : List Int × List Int := risen (t.length - 1) (a, t)
theorem riseF_len (a t : List Int) : (riseF a t).1.length = a.length ∧ (riseF a t).2.length = t.length := risen_len _ _
theorem riseF_twice (a' a t : List Int) : riseF a' (riseF a t).2 = (a', (riseF a t).2) := by
  unfold riseF
  refine risen_still _ _ ?_
  show Sorted (risen (t.length - 1) (a, t)).2 _
  rw [(risen_len _ _).2]
  by_cases h : t.length = 0
  · intro i hi
    simp only [] at hi
    omega
  · exact risen_sorts _ _ (by show t.length - 1 < t.length; omega)
noncomputable def b77 : Code := bodyOf Try.f77
noncomputable def C77 : Cfg Ty := ⟨fun _ => none, fun _ => false, 92, 1⟩
def U77 : Cuts := ⟨fun
  | 0 => some []
  | 1 => some [(0, none), (2, none)]
  | 2 => some [(0, none), (2, none)]
  | _ => none, fun
  | 0 => some [(0, none), (2, none)]
  | 2 => some [(0, none), (2, none), (3, none)]
  | _ => none, fun _ => none⟩
noncomputable def k77_j0 : List Item := []
noncomputable def k77_l0 : List Item := [.code (inC (inC (sndC b77))), .inLoop (inC (inC (sndC b77))), .inBlock 0]
noncomputable def k77_j1 : List Item := [.code (sndC (sndC (inC (inC (sndC b77))))), .inLoop (inC (inC (sndC b77))), .inBlock 0]
noncomputable def k77_j2 : List Item := [.inBlock 1, .code (sndC (sndC (inC (inC (sndC b77))))), .inLoop (inC (inC (sndC b77))), .inBlock 0]
noncomputable def k77_l2 : List Item := [.code (inC (inC (sndC (inC (fstC (sndC (inC (inC (sndC b77))))))))), .inLoop (inC (inC (sndC (inC (fstC (sndC (inC (inC (sndC b77))))))))), .inBlock 2, .inBlock 1, .code (sndC (sndC (inC (inC (sndC b77))))), .inLoop (inC (inC (sndC b77))), .inBlock 0]
def a77 (op : Int) (ty : Int) (to : Int) (sy : Int) (nu : Int) (ar : List Int) (into : List Int) : List (AV Ty) := [.box true (46 : Nat) (Ins.mk op ty to sy nu ar into)]
noncomputable def R77 (op : Int) (ty : Int) (to : Int) (sy : Int) (nu : Int) (ar : List Int) (into : List Int) : St Ty → EvR := resT tb C77 Try.f77.results.toList .keep (a77 op ty to sy nu ar into)
def s77_l0 (op : Int) (ty : Int) (to : Int) (sy : Int) (nu : Int) (ar : List Int) (into : List Int) (v2 : Int) (h0 : Int) (h0_1 : Int) (h0_2 : Int) (h0_3 : Int) (h0_4 : Int) (h0_5 : List Int) (h0_6 : List Int) : St Ty := St.mk [(0, .ptr (0) [] (0) (0)), (2, .v (.int .i64 v2))] [some (Root.mk (46) true [Ins.mk h0 h0_1 h0_2 h0_3 h0_4 h0_5 h0_6])]
def s77_l2 (op : Int) (ty : Int) (to : Int) (sy : Int) (nu : Int) (ar : List Int) (into : List Int) (v2 : Int) (v3 : Int) (h0 : Int) (h0_1 : Int) (h0_2 : Int) (h0_3 : Int) (h0_4 : Int) (h0_5 : List Int) (h0_6 : List Int) : St Ty := St.mk [(0, .ptr (0) [] (0) (0)), (2, .v (.int .i64 v2)), (3, .v (.int .i64 v3))] [some (Root.mk (46) true [Ins.mk h0 h0_1 h0_2 h0_3 h0_4 h0_5 h0_6])]
def s77_j0 (op : Int) (ty : Int) (to : Int) (sy : Int) (nu : Int) (ar : List Int) (into : List Int) (h0 : Int) (h0_1 : Int) (h0_2 : Int) (h0_3 : Int) (h0_4 : Int) (h0_5 : List Int) (h0_6 : List Int) : St Ty := St.mk [] [some (Root.mk (46) true [Ins.mk h0 h0_1 h0_2 h0_3 h0_4 h0_5 h0_6])]
def s77_j2 (op : Int) (ty : Int) (to : Int) (sy : Int) (nu : Int) (ar : List Int) (into : List Int) (v2 : Int) (h0 : Int) (h0_1 : Int) (h0_2 : Int) (h0_3 : Int) (h0_4 : Int) (h0_5 : List Int) (h0_6 : List Int) : St Ty := St.mk [(0, .ptr (0) [] (0) (0)), (2, .v (.int .i64 v2))] [some (Root.mk (46) true [Ins.mk h0 h0_1 h0_2 h0_3 h0_4 h0_5 h0_6])]
def s77_j1 (op : Int) (ty : Int) (to : Int) (sy : Int) (nu : Int) (ar : List Int) (into : List Int) (v2 : Int) (h0 : Int) (h0_1 : Int) (h0_2 : Int) (h0_3 : Int) (h0_4 : Int) (h0_5 : List Int) (h0_6 : List Int) : St Ty := St.mk [(0, .ptr (0) [] (0) (0)), (2, .v (.int .i64 v2))] [some (Root.mk (46) true [Ins.mk h0 h0_1 h0_2 h0_3 h0_4 h0_5 h0_6])]
theorem e77 (J op ty to sy nu ar into) : run tb C77 U77 J (R77 op ty to sy nu ar into) 4096 [.code b77] ⟨slotsA (a77 op ty to sy nu ar into) 0 0, heapA (a77 op ty to sy nu ar into)⟩ =
 J k77_l0 (s77_l0 op ty to sy nu ar into (1) op ty to sy nu ar into) := by kernel_rfl
theorem e77_l0 (J op ty to sy nu ar into v2 h0 h0_1 h0_2 h0_3 h0_4 h0_5 h0_6) : run tb C77 U77 J (R77 op ty to sy nu ar into) 4096 k77_l0 (s77_l0 op ty to sy nu ar into v2 h0 h0_1 h0_2 h0_3 h0_4 h0_5 h0_6) =
 if decide (v2 < (↑h0_6.length : Int)) = true then
 J k77_l2 (s77_l2 op ty to sy nu ar into v2 v2 h0 h0_1 h0_2 h0_3 h0_4 h0_5 h0_6)
 else
 J k77_j0 (s77_j0 op ty to sy nu ar into h0 h0_1 h0_2 h0_3 h0_4 h0_5 h0_6) := by kernel_rfl
theorem e77_l2 (J op ty to sy nu ar into v2 v3 h0 h0_1 h0_2 h0_3 h0_4 h0_5 h0_6) : run tb C77 U77 J (R77 op ty to sy nu ar into) 4096 k77_l2 (s77_l2 op ty to sy nu ar into v2 v3 h0 h0_1 h0_2 h0_3 h0_4 h0_5 h0_6) =
 if decide (v3 > 0) = true then
 if 0 ≤ v3 then
 if v3 < (↑h0_6.length : Int) then
 if 0 ≤ IntKind.i64.wrap (v3 - 1) then
 if IntKind.i64.wrap (v3 - 1) < (↑h0_6.length : Int) then
 if decide (h0_6.getD (0 + v3.toNat) 0 < h0_6.getD (0 + (IntKind.i64.wrap (v3 - 1)).toNat) 0) = true then
 if 0 ≤ IntKind.i64.wrap (v3 - 1) then
 if IntKind.i64.wrap (v3 - 1) < (↑h0_6.length : Int) then
 if 0 ≤ v3 then
 if v3 < (↑h0_6.length : Int) then
 if 0 ≤ v3 then
 if v3 < (↑h0_6.length : Int) then
 if 0 ≤ IntKind.i64.wrap (v3 - 1) then
 if IntKind.i64.wrap (v3 - 1) < (↑(h0_6.set (0 + v3.toNat) (h0_6.getD (0 + (IntKind.i64.wrap (v3 - 1)).toNat) 0)).length : Int) then
 if 0 ≤ IntKind.i64.wrap (v3 - 1) then
 if IntKind.i64.wrap (v3 - 1) < (↑h0_5.length : Int) then
 if 0 ≤ v3 then
 if v3 < (↑h0_5.length : Int) then
 if 0 ≤ v3 then
 if v3 < (↑h0_5.length : Int) then
 if 0 ≤ IntKind.i64.wrap (v3 - 1) then
 if IntKind.i64.wrap (v3 - 1) < (↑(h0_5.set (0 + v3.toNat) (h0_5.getD (0 + (IntKind.i64.wrap (v3 - 1)).toNat) 0)).length : Int) then
 J k77_l2 (s77_l2 op ty to sy nu ar into v2 (IntKind.i64.wrap (v3 - 1)) h0 h0_1 h0_2 h0_3 h0_4 ((h0_5.set (0 + v3.toNat) (h0_5.getD (0 + (IntKind.i64.wrap (v3 - 1)).toNat) 0)).set (0 + (IntKind.i64.wrap (v3 - 1)).toNat) (h0_5.getD (0 + v3.toNat) 0)) ((h0_6.set (0 + v3.toNat) (h0_6.getD (0 + (IntKind.i64.wrap (v3 - 1)).toNat) 0)).set (0 + (IntKind.i64.wrap (v3 - 1)).toNat) (h0_6.getD (0 + v3.toNat) 0)))
 else none
 else none
 else none
 else none
 else none
 else none
 else none
 else none
 else none
 else none
 else none
 else none
 else none
 else none
 else none
 else none
 else
 J k77_j2 (s77_j2 op ty to sy nu ar into v2 h0 h0_1 h0_2 h0_3 h0_4 h0_5 h0_6)
 else none
 else none
 else none
 else none
 else
 J k77_j2 (s77_j2 op ty to sy nu ar into v2 h0 h0_1 h0_2 h0_3 h0_4 h0_5 h0_6) := by kernel_rfl
theorem e77_j0 (J op ty to sy nu ar into h0 h0_1 h0_2 h0_3 h0_4 h0_5 h0_6) : run tb C77 U77 J (R77 op ty to sy nu ar into) 4096 k77_j0 (s77_j0 op ty to sy nu ar into h0 h0_1 h0_2 h0_3 h0_4 h0_5 h0_6) =
 some (.tup [], [.box true (46) (Ins.mk h0 h0_1 h0_2 h0_3 h0_4 h0_5 h0_6)]) := by kernel_rfl
theorem e77_j2 (J op ty to sy nu ar into v2 h0 h0_1 h0_2 h0_3 h0_4 h0_5 h0_6) : run tb C77 U77 J (R77 op ty to sy nu ar into) 4096 k77_j2 (s77_j2 op ty to sy nu ar into v2 h0 h0_1 h0_2 h0_3 h0_4 h0_5 h0_6) =
 J k77_j1 (s77_j1 op ty to sy nu ar into v2 h0 h0_1 h0_2 h0_3 h0_4 h0_5 h0_6) := by kernel_rfl
theorem e77_j1 (J op ty to sy nu ar into v2 h0 h0_1 h0_2 h0_3 h0_4 h0_5 h0_6) : run tb C77 U77 J (R77 op ty to sy nu ar into) 4096 k77_j1 (s77_j1 op ty to sy nu ar into v2 h0 h0_1 h0_2 h0_3 h0_4 h0_5 h0_6) =
 J k77_l0 (s77_l0 op ty to sy nu ar into (IntKind.i64.wrap (v2 + 1)) h0 h0_1 h0_2 h0_3 h0_4 h0_5 h0_6) := by kernel_rfl

theorem in77 : Entered 77 := ⟨Try.f77, b77, by kernel_rfl, by kernel_rfl, by kernel_rfl⟩
theorem fn77 (op ty to sy nu : Int) (ar into : List Int) {res : AV Ty} {outs : List (AV Ty)} (h : Ends C77 U77 (R77 op ty to sy nu ar into) [.code b77] ⟨slotsA (a77 op ty to sy nu ar into) 0 0, heapA (a77 op ty to sy nu ar into)⟩ (some (res, outs))) : CallOk tb Try.prog 77 (a77 op ty to sy nu ar into) res outs := by
  obtain ⟨n0, hn⟩ := h
  exact fn_ok (C := C77) (U := U77) (n := 0 + n0) (q := .keep) tbOk good (fun f mu S h => by cases h) mixed (fn := Try.f77) (body := b77) (by kernel_rfl) (by kernel_rfl) rfl rfl (by show 1 ≤ 92; omega) (hn 0)
section
variable {op ty to sy nu : Int} {ar into : List Int}
theorem Rise.in {k : Nat} : ∀ (j : Nat) (s : List Int × List Int), s.1.length = s.2.length → s.2.length ≤ 1000 → j < s.2.length →
    Goes C77 U77 (R77 op ty to sy nu ar into) k77_l2 (s77_l2 op ty to sy nu ar into k j op ty to sy nu s.1 s.2) k77_j2 (s77_j2 op ty to sy nu ar into k op ty to sy nu (inn j s).1 (inn j s).2)
  | 0, s, h1, h2, hj => .step fun J => by
    rw [e77_l2]
    simp (disch := first | omega | assumption | (rw [decide_eq_true_eq]; omega) | (rw [decide_eq_false_iff_not]; omega)) only [↓if_pos, ↓if_neg, if_true, if_false, wrap_up, Int.toNat_natCast, Nat.zero_add]
    rfl
  | j + 1, s, h1, h2, hj => by
    have e1 : (((j + 1 : Nat) : Int) - 1) = (j : Int) := by omega
    by_cases h : s.2.getD (j + 1) 0 < s.2.getD j 0
    · have ih := Rise.in (k := k) j (swp s.1 j, swp s.2 j) (by rw [swp_len, swp_len]; exact h1) (by rw [swp_len]; exact h2) (by rw [swp_len]; omega)
      unfold inn
      rw [if_pos h]
      refine Goes.trans (.step fun J => ?_) ih
      rw [e77_l2, e1]
      have e2 : IntKind.i64.wrap (j : Int) = (j : Int) := wrap_up (by omega)
      simp only [e2, Int.toNat_natCast, Nat.zero_add, List.length_set]
      simp (disch := first | omega | assumption | (rw [decide_eq_true_eq]; omega) | (rw [decide_eq_false_iff_not]; omega)) only [↓if_pos, ↓if_neg, if_true, if_false, wrap_up, Int.toNat_natCast, Nat.zero_add]
      rfl
    · unfold inn
      rw [if_neg h]
      refine .step fun J => ?_
      rw [e77_l2, e1]
      have e2 : IntKind.i64.wrap (j : Int) = (j : Int) := wrap_up (by omega)
      simp only [e2, Int.toNat_natCast, Nat.zero_add, List.length_set]
      simp (disch := first | omega | assumption | (rw [decide_eq_true_eq]; omega) | (rw [decide_eq_false_iff_not]; omega)) only [↓if_pos, ↓if_neg, if_true, if_false, wrap_up, Int.toNat_natCast, Nat.zero_add]
theorem Rise.out (h1 : ar.length = into.length) (h2 : into.length ≤ 1000) {k : Nat} (hk : k + 1 < into.length) :
    Goes C77 U77 (R77 op ty to sy nu ar into) k77_l0 (s77_l0 op ty to sy nu ar into (k + 1 : Nat) op ty to sy nu (risen k (ar, into)).1 (risen k (ar, into)).2)
      k77_l0 (s77_l0 op ty to sy nu ar into (k + 1 + 1 : Nat) op ty to sy nu (risen (k + 1) (ar, into)).1 (risen (k + 1) (ar, into)).2) := by
  obtain ⟨l1, l2⟩ := risen_len k (ar, into)
  simp only at l1 l2
  refine Goes.trans (.step fun J => ?_) (Goes.trans (Rise.in (k := k + 1) (k + 1) (risen k (ar, into)) (by omega) (by omega) (by omega)) (Goes.trans (.step fun J => e77_j2 ..) (.step fun J => ?_)))
  · rw [e77_l0]
    simp (disch := first | omega | assumption | (rw [decide_eq_true_eq]; omega) | (rw [decide_eq_false_iff_not]; omega)) only [↓if_pos, ↓if_neg, if_true, if_false, wrap_up, Int.toNat_natCast, Nat.zero_add]
  · rw [e77_j1]
    simp (disch := first | omega | assumption | (rw [decide_eq_true_eq]; omega) | (rw [decide_eq_false_iff_not]; omega)) only [↓if_pos, ↓if_neg, if_true, if_false, wrap_up, Int.toNat_natCast, Nat.zero_add]
    rfl
theorem rise_ok (h1 : ar.length = into.length) (h2 : into.length ≤ 1000) : CallOk tb Try.prog 77 (a77 op ty to sy nu ar into) (.tup []) [.box true 46 (⟨op, ty, to, sy, nu, (riseF ar into).1, (riseF ar into).2⟩ : Ev.Ins)] := by
  refine fn77 op ty to sy nu ar into (Goes.ends (.step fun J => e77 J ..) ?_)
  have go : ∀ k, k ≤ into.length - 1 → Goes C77 U77 (R77 op ty to sy nu ar into) k77_l0 (s77_l0 op ty to sy nu ar into (0 + 1 : Nat) op ty to sy nu ar into) k77_l0 (s77_l0 op ty to sy nu ar into (k + 1 : Nat) op ty to sy nu (risen k (ar, into)).1 (risen k (ar, into)).2) :=
    Goes.upto (fun k => s77_l0 op ty to sy nu ar into (k + 1 : Nat) op ty to sy nu (risen k (ar, into)).1 (risen k (ar, into)).2) (into.length - 1) fun k hk => Rise.out h1 h2 (by omega)
  refine Goes.ends (go _ (Nat.le_refl _)) ?_
  obtain ⟨l1, l2⟩ := risen_len (into.length - 1) (ar, into)
  simp only at l1 l2
  refine Goes.ends (.step fun J => ?_) (.step fun J => e77_j0 J op ty to sy nu ar into op ty to sy nu (riseF ar into).1 (riseF ar into).2)
  rw [e77_l0]
  simp (disch := first | omega | assumption | (rw [decide_eq_true_eq]; omega) | (rw [decide_eq_false_iff_not]; omega)) only [↓if_pos, ↓if_neg, if_true, if_false, wrap_up, Int.toNat_natCast, Nat.zero_add]
  rfl
end
def S77 : List (AV Ty) → T (AV Ty × List (AV Ty))
  | [.box true 46 i] => .ite ((show Ev.Ins from i).args.length = (show Ev.Ins from i).into.length ∧ (show Ev.Ins from i).into.length ≤ 1000) inferInstance
      (.ret (.tup [], [.box true 46 (⟨(show Ev.Ins from i).op, (show Ev.Ins from i).type_, (show Ev.Ins from i).to_, (show Ev.Ins from i).sym_, (show Ev.Ins from i).num, (riseF (show Ev.Ins from i).args (show Ev.Ins from i).into).1, (riseF (show Ev.Ins from i).args (show Ev.Ins from i).into).2⟩ : Ev.Ins)])) .fail
  | _ => .fail
theorem S77_ok (l : List (AV Ty)) (r : AV Ty) (outs : List (AV Ty)) (h : (S77 l).val = some (r, outs)) : CallOk tb Try.prog 77 l r outs := by
  unfold S77 at h
  split at h
  · rename_i i
    rcases ite_val h with ⟨e, h⟩ | ⟨_, h⟩
    · cases h
      exact rise_ok (op := (show Ev.Ins from i).op) (ty := (show Ev.Ins from i).type_) (to := (show Ev.Ins from i).to_) (sy := (show Ev.Ins from i).sym_) (nu := (show Ev.Ins from i).num) e.1 e.2
    · cases h
  · cases h
end Go.Proofs.Ytggibjbcbicpjaa.Ev
