/- scc.Rec, plnref12.Rec: who leads to itself. -/
import Derived.Test.YtggibjbcbicpjaaSccB
namespace Go.Proofs.Ytggibjbcbicpjaa.Ev
open Go
set_option linter.unusedVariables false
set_option linter.unusedSimpArgs false
noncomputable def b40 : Code := bodyOf Try.f40
def C40 : Cfg Ty := ⟨fun _ => none, fun _ => false, 72, 0⟩
def U40 : Cuts := ⟨fun
  | 0 => some []
  | 1 => some [(0, none), (1, none), (5, none), (6, some 3)]
  | 2 => some [(0, none), (1, none), (5, none), (6, some 3)]
  | _ => none, fun
  | 0 => some [(0, none), (1, none), (5, none), (6, some 3)]
  | 2 => some [(0, none), (1, none), (5, none), (6, some 3), (40, none), (41, none), (42, none)]
  | _ => none, fun _ => none⟩
/-- join 0: live:  -/
noncomputable def k40_j0 : List Item := [.code (sndC (sndC (sndC (sndC (sndC b40)))))]
/-- loop 0: live: 0, 1, 5, 6 -/
noncomputable def k40_l0 : List Item := [.code (inC (inC (fstC (sndC (sndC (sndC (sndC b40))))))), .inLoop (inC (inC (fstC (sndC (sndC (sndC (sndC b40))))))), .inBlock 0, .code (sndC (sndC (sndC (sndC (sndC b40)))))]
/-- join 1: live: 0, 1, 5, 6 -/
noncomputable def k40_j1 : List Item := [.inLoop (inC (inC (fstC (sndC (sndC (sndC (sndC b40))))))), .inBlock 0, .code (sndC (sndC (sndC (sndC (sndC b40)))))]
/-- join 2: live: 0, 1, 5, 6 -/
noncomputable def k40_j2 : List Item := [.inBlock 1, .inLoop (inC (inC (fstC (sndC (sndC (sndC (sndC b40))))))), .inBlock 0, .code (sndC (sndC (sndC (sndC (sndC b40)))))]
/-- loop 2: live: 0, 1, 5, 6, 40, 41, 42 -/
noncomputable def k40_l2 : List Item := [.code (inC (inC (sndC (sndC (sndC (inC (sndC (inC (inC (fstC (sndC (sndC (sndC (sndC b40)))))))))))))), .inLoop (inC (inC (sndC (sndC (sndC (inC (sndC (inC (inC (fstC (sndC (sndC (sndC (sndC b40)))))))))))))), .inBlock 2, .inBlock 1, .inLoop (inC (inC (fstC (sndC (sndC (sndC (sndC b40))))))), .inBlock 0, .code (sndC (sndC (sndC (sndC (sndC b40)))))]
def a40 (g : List (List Int)) (v : Int) : List (AV Ty) := [.sl false (30 : Nat) g, .v (.int .i64 v)]
noncomputable def R40 (g : List (List Int)) (v : Int) : St Ty → EvR := resT tb C40 Try.f40.results.toList .keep (a40 g v)
def s40_l0 (g : List (List Int)) (v : Int) (h0 : List Bool) (h1 : List Int) : St Ty := St.mk [(0, .sl false (30) g), (1, .v (.int .i64 v)), (5, .ref (0) [] none false), (6, .ref (1) [] none false)] [some (Root.mk (4) false h0), some (Root.mk (3) false h1)]
def s40_l2 (g : List (List Int)) (v : Int) (v40 : List Int) (v41 : Int) (v42 : Int) (h0 : List Bool) (h1 : List Int) : St Ty := St.mk [(0, .sl false (30) g), (1, .v (.int .i64 v)), (5, .ref (0) [] none false), (6, .ref (1) [] none false), (40, .sl false (3) v40), (41, .v (.int .i64 v41)), (42, .v (.int .i64 v42))] [some (Root.mk (4) false h0), some (Root.mk (3) false h1)]
def s40_j0 (g : List (List Int)) (v : Int)  : St Ty := St.mk [] []
def s40_j2 (g : List (List Int)) (v : Int) (h0 : List Bool) (h1 : List Int) : St Ty := St.mk [(0, .sl false (30) g), (1, .v (.int .i64 v)), (5, .ref (0) [] none false), (6, .ref (1) [] none false)] [some (Root.mk (4) false h0), some (Root.mk (3) false h1)]
def s40_j1 (g : List (List Int)) (v : Int) (h0 : List Bool) (h1 : List Int) : St Ty := St.mk [(0, .sl false (30) g), (1, .v (.int .i64 v)), (5, .ref (0) [] none false), (6, .ref (1) [] none false)] [some (Root.mk (4) false h0), some (Root.mk (3) false h1)]
theorem e40 (J : List Item → St Ty → EvR) (g : List (List Int)) (v : Int) : run tb C40 U40 J (R40 g v) 4096 [.code b40] ⟨slotsA (a40 g v) 0 0, heapA (a40 g v)⟩ =
    if decide (v < (0 : Int)) = false then
     if decide (v ≥ (↑g.length : Int)) = true then
      some (.v (.bool false), [.dead, .dead])
     else
      if (0 : Int) ≤ (↑g.length : Int) ∧ (↑g.length : Int) ≤ (↑g.length : Int) ∧ (↑g.length : Int) ≤ (1099511627776 : Int) ∧ (↑g.length : Int) * (↑(1 : Nat) : Int) ≤ (1099511627776 : Int) then
       J k40_l0 (s40_l0 g v (List.replicate (↑g.length : Int).toNat false) ([v]))
      else
       none
    else
     some (.v (.bool false), [.dead, .dead]) := by kernel_rfl
theorem e40_l0 (J : List Item → St Ty → EvR) (g : List (List Int)) (v : Int) (h0 : List Bool) (h1 : List Int) : run tb C40 U40 J (R40 g v) 4096 k40_l0 (s40_l0 g v h0 h1) =
    if decide ((↑h1.length : Int) > (0 : Int)) = true then
     if (0 : Int) ≤ IntKind.i64.wrap ((↑h1.length : Int) - (1 : Int)) then
      if IntKind.i64.wrap ((↑h1.length : Int) - (1 : Int)) < (↑h1.length : Int) then
       if (0 : Int) ≤ (0 : Int) ∧ (0 : Int) ≤ IntKind.i64.wrap ((↑h1.length : Int) - (1 : Int)) ∧ IntKind.i64.wrap ((↑h1.length : Int) - (1 : Int)) ≤ (↑h1.length : Int) then
        if (0 : Int) ≤ h1.getD ((0 : Nat) + (IntKind.i64.wrap ((↑h1.length : Int) - (1 : Int))).toNat) (0 : Int) then
         if h1.getD ((0 : Nat) + (IntKind.i64.wrap ((↑h1.length : Int) - (1 : Int))).toNat) (0 : Int) < (↑g.length : Int) then
          J k40_l2 (s40_l2 g v (g.getD (Int.toNat (h1.getD ((0 : Nat) + (IntKind.i64.wrap ((↑h1.length : Int) - (1 : Int))).toNat) (0 : Int))) []) ((↑(List.length (g.getD (Int.toNat (h1.getD ((0 : Nat) + (IntKind.i64.wrap ((↑h1.length : Int) - (1 : Int))).toNat) (0 : Int))) [])) : Int)) (0 : Int) (h0) (List.take ((IntKind.i64.wrap ((↑h1.length : Int) - (1 : Int))).toNat - Int.toNat (0 : Int)) (List.drop ((0 : Nat) + Int.toNat (0 : Int)) h1)))
         else
          none
        else
         none
       else
        none
      else
       none
     else
      none
    else
     J k40_j0 (s40_j0 g v) := by kernel_rfl
theorem e40_l2 (J : List Item → St Ty → EvR) (g : List (List Int)) (v : Int) (v40 : List Int) (v41 : Int) (v42 : Int) (h0 : List Bool) (h1 : List Int) : run tb C40 U40 J (R40 g v) 4096 k40_l2 (s40_l2 g v v40 v41 v42 h0 h1) =
    if decide (v42 < v41) = true then
     if (0 : Int) ≤ v42 then
      if v42 < (↑v40.length : Int) then
       if (v40.getD v42.toNat (0 : Int) == v) = true then
        some (.v (.bool true), [.dead, .dead])
       else
        if decide (v40.getD v42.toNat (0 : Int) ≥ (0 : Int)) = true then
         if decide (v40.getD v42.toNat (0 : Int) < (↑g.length : Int)) = true then
          if (0 : Int) ≤ v40.getD v42.toNat (0 : Int) then
           if v40.getD v42.toNat (0 : Int) < (↑h0.length : Int) then
            if (!h0.getD ((0 : Nat) + Int.toNat (v40.getD v42.toNat (0 : Int))) false) = true then
             if (0 : Int) ≤ v40.getD v42.toNat (0 : Int) then
              if v40.getD v42.toNat (0 : Int) < (↑h0.length : Int) then
               if h1.length + [v40.getD v42.toNat (0 : Int)].length + (1 : Nat) ≤ (549755813888 : Nat) ∧ (h1.length + [v40.getD v42.toNat (0 : Int)].length + (1 : Nat)) * (8 : Nat) ≤ (549755813888 : Nat) then
                J k40_l2 (s40_l2 g v (v40) (v41) (IntKind.i64.wrap (v42 + (1 : Int))) (h0.set ((0 : Nat) + Int.toNat (v40.getD v42.toNat (0 : Int))) true) (h1 ++ [v40.getD v42.toNat (0 : Int)]))
               else
                none
              else
               none
             else
              none
            else
             J k40_l2 (s40_l2 g v (v40) (v41) (IntKind.i64.wrap (v42 + (1 : Int))) (h0) (h1))
           else
            none
          else
           none
         else
          J k40_l2 (s40_l2 g v (v40) (v41) (IntKind.i64.wrap (v42 + (1 : Int))) (h0) (h1))
        else
         J k40_l2 (s40_l2 g v (v40) (v41) (IntKind.i64.wrap (v42 + (1 : Int))) (h0) (h1))
      else
       none
     else
      none
    else
     J k40_j2 (s40_j2 g v (h0) (h1)) := by kernel_rfl
theorem e40_j0 (J : List Item → St Ty → EvR) (g : List (List Int)) (v : Int)  : run tb C40 U40 J (R40 g v) 4096 k40_j0 (s40_j0 g v) =
    some (.v (.bool false), [.dead, .dead]) := by kernel_rfl
theorem e40_j2 (J : List Item → St Ty → EvR) (g : List (List Int)) (v : Int) (h0 : List Bool) (h1 : List Int) : run tb C40 U40 J (R40 g v) 4096 k40_j2 (s40_j2 g v h0 h1) =
    J k40_j1 (s40_j1 g v (h0) (h1)) := by kernel_rfl
theorem e40_j1 (J : List Item → St Ty → EvR) (g : List (List Int)) (v : Int) (h0 : List Bool) (h1 : List Int) : run tb C40 U40 J (R40 g v) 4096 k40_j1 (s40_j1 g v h0 h1) =
    J k40_l0 (s40_l0 g v (h0) (h1)) := by kernel_rfl

theorem in40 : Entered 40 := ⟨Try.f40, b40, by kernel_rfl, by kernel_rfl, by kernel_rfl⟩
theorem fn40 (g : List (List Int)) (v : Int) {res : AV Ty} {outs : List (AV Ty)} (h : Ends C40 U40 (R40 g v) [.code b40] ⟨slotsA (a40 g v) 0 0, heapA (a40 g v)⟩ (some (res, outs))) : CallOk tb Try.prog 40 (a40 g v) res outs := by
  obtain ⟨n0, hn⟩ := h
  exact fn_ok (C := C40) (U := U40) (n := 0 + n0) (q := .keep) tbOk good (fun f mu S h => by cases h) mixed (fn := Try.f40) (body := b40) (by kernel_rfl) (by kernel_rfl) rfl rfl (by show 2 ≤ 72; omega) (hn 0)
section
variable {g : List (List Int)} {v : Nat}
theorem rec_in (hg : smallRows g) : ∀ (m i x : Nat) (seen : List Bool) (T : List Nat), i + m = (g.getD x []).length → Sk g v seen T (some (x, i)) → T.length + falses seen ≤ g.length → seen.getD v false = false →
    (Led (ed g) v v ∧ Ends C40 U40 (R40 g v) k40_l2 (s40_l2 g v (g.getD x []) (g.getD x []).length i seen (intL T)) (some (yes true, [.dead, .dead]))) ∨
    ∃ seen' T', Sk g v seen' T' none ∧ seen'.getD v false = false ∧ T'.length + falses seen' = T.length + falses seen ∧ Goes C40 U40 (R40 g v) k40_l2 (s40_l2 g v (g.getD x []) (g.getD x []).length i seen (intL T)) k40_l0 (s40_l0 g v seen' (intL T'))
  | 0, i, x, seen, T, hm, h, hc, hs => by
    obtain ⟨h1, _⟩ := h.cur x i rfl
    have := hg.1
    refine .inr ⟨seen, T, h.done (by omega), hs, rfl, Goes.trans (.step fun J => ?_) (Goes.trans (.step fun J => e40_j2 J g v seen (intL T)) (.step fun J => e40_j1 J g v seen (intL T)))⟩
    rw [e40_l2]
    simp (disch := first | omega | assumption | (rw [decide_eq_true_eq]; omega) | (rw [decide_eq_false_iff_not]; omega)) only [↓if_pos, ↓if_neg, if_true, if_false, wrap_up, Int.toNat_natCast, Nat.zero_add]
  | m + 1, i, x, seen, T, hm, h, hc, hs => by
    obtain ⟨h1, h1'⟩ := h.cur x i rfl
    have hlen := h.len
    have b1 := hg.1
    have b2 := hg.2 _ (getD_in (d := []) h1)
    have hi : i < (g.getD x []).length := by omega
    by_cases hv : (g.getD x []).getD i 0 = v
    · refine .inl ⟨?_, .step fun J => ?_⟩
      · have he : v < g.length → ed g x v := fun hv' => ⟨h1, hv', by rw [← hv]; exact getD_in hi⟩
        rcases h1' with rfl | h2
        · exact .one (he h1)
        · have hl := h.led _ h2
          obtain ⟨c, hc, _⟩ := hl
          exact (h.led _ h2).tail (he hc.1)
      · rw [e40_l2, Int.toNat_natCast, hv]
        simp (disch := first | omega | assumption | (rw [decide_eq_true_eq]; omega) | (rw [decide_eq_false_iff_not]; omega)) only [↓if_pos, ↓if_neg, if_true, if_false, wrap_up, Int.toNat_natCast, Nat.zero_add, beq_self_eq_true]
        rfl
    have hv' : ((g.getD x []).getD i 0 == (v : Int)) ≠ true := fun e => hv (beq_iff_eq.1 e)
    by_cases hz : ∃ z : Nat, z < g.length ∧ (g.getD x []).getD i 0 = z ∧ seen.getD z false = false
    · obtain ⟨z, z1, z2, z3⟩ := hz
      have hf := falses_set (l := seen) (i := z) (by omega) z3
      have hs' : (seen.set z true).getD v false = false := by
        rw [getD_set' (by omega), if_neg (fun e => hv (by rw [z2, e]))]
        exact hs
      have hT : (intL T).length ≤ 1000 := by rw [intL_len]; omega
      have step : Goes C40 U40 (R40 g v) k40_l2 (s40_l2 g v (g.getD x []) (g.getD x []).length i seen (intL T)) k40_l2 (s40_l2 g v (g.getD x []) (g.getD x []).length (i + 1 : Nat) (seen.set z true) (intL (T ++ [z]))) := .step fun J => by
        rw [z2] at hv'
        rw [e40_l2, Int.toNat_natCast, z2, Int.toNat_natCast, Nat.zero_add, z3]
        simp (disch := first | omega | assumption | (rw [decide_eq_true_eq]; omega) | (rw [decide_eq_false_iff_not]; omega)) only [↓if_pos, ↓if_neg, if_true, if_false, wrap_up, Int.toNat_natCast, Nat.zero_add, intL_app, List.length_singleton, if_neg hv', Bool.not_false]
        rfl
      rcases rec_in hg m (i + 1) x (seen.set z true) (T ++ [z]) (by omega) (h.push hi z1 z2) (by rw [List.length_append, List.length_singleton]; omega) hs' with ⟨k1, k2⟩ | ⟨seen', T', k1, k0, k2, k3⟩
      · exact .inl ⟨k1, step.ends k2⟩
      · exact .inr ⟨seen', T', k1, k0, by rw [k2, List.length_append, List.length_singleton]; omega, step.trans k3⟩
    · have hz' : ∀ z : Nat, z < g.length → (g.getD x []).getD i 0 = z → seen.getD z false = true := fun z z1 z2 => by
        cases hh : seen.getD z false with
        | true => rfl
        | false => exact absurd ⟨z, z1, z2, hh⟩ hz
      have step : Goes C40 U40 (R40 g v) k40_l2 (s40_l2 g v (g.getD x []) (g.getD x []).length i seen (intL T)) k40_l2 (s40_l2 g v (g.getD x []) (g.getD x []).length (i + 1 : Nat) seen (intL T)) := .step fun J => by
        rw [e40_l2, Int.toNat_natCast]
        by_cases c1 : 0 ≤ (g.getD x []).getD i 0
        · by_cases c2 : (g.getD x []).getD i 0 < g.length
          · obtain ⟨z, ez⟩ := Int.eq_ofNat_of_zero_le c1
            have z3 := hz' z (by omega) ez
            rw [ez] at hv'
            rw [ez, Int.toNat_natCast, Nat.zero_add, z3]
            simp (disch := first | omega | assumption | (rw [decide_eq_true_eq]; omega) | (rw [decide_eq_false_iff_not]; omega)) only [↓if_pos, ↓if_neg, if_true, if_false, wrap_up, Int.toNat_natCast, Nat.zero_add, Bool.not_true, Bool.false_eq_true, if_neg hv']
            rfl
          · simp (disch := first | omega | assumption | (rw [decide_eq_true_eq]; omega) | (rw [decide_eq_false_iff_not]; omega)) only [↓if_pos, ↓if_neg, if_true, if_false, wrap_up, Int.toNat_natCast, Nat.zero_add, if_neg hv']
            rfl
        · simp (disch := first | omega | assumption | (rw [decide_eq_true_eq]; omega) | (rw [decide_eq_false_iff_not]; omega)) only [↓if_pos, ↓if_neg, if_true, if_false, wrap_up, Int.toNat_natCast, Nat.zero_add, if_neg hv']
          rfl
      rcases rec_in hg m (i + 1) x seen T (by omega) (h.skip hz') hc hs with ⟨k1, k2⟩ | ⟨seen', T', k1, k0, k2, k3⟩
      · exact .inl ⟨k1, step.ends k2⟩
      · exact .inr ⟨seen', T', k1, k0, k2, step.trans k3⟩
theorem rec_all (hg : smallRows g) : ∀ (n : Nat) (seen : List Bool) (T : List Nat), T.length + falses seen ≤ n → T.length + falses seen ≤ g.length + 1 → Sk g v seen T none → seen.getD v false = false →
    Ends C40 U40 (R40 g v) k40_l0 (s40_l0 g v seen (intL T)) (some (yes (ledB g v v), [.dead, .dead]))
  | n, seen, T, hn, hc, h, hs => by
    have hb := hg.1
    by_cases hT : T = []
    · subst hT
      have e : ledB g v v = false := by
        cases hh : ledB g v v with
        | false => rfl
        | true => have := h.fin (ledB_iff.1 hh); rw [this] at hs; cases hs
      rw [e]
      refine Goes.ends (.step fun J => ?_) (.step fun J => e40_j0 J g v)
      rw [e40_l0]
      simp (disch := first | omega | assumption | (rw [decide_eq_true_eq]; omega) | (rw [decide_eq_false_iff_not]; omega)) only [↓if_pos, ↓if_neg, if_true, if_false, wrap_up, Int.toNat_natCast, Nat.zero_add, intL, List.map_nil, List.length_nil]
    · obtain ⟨R, x, e⟩ := split_last (T := T) (by cases T with | nil => exact absurd rfl hT | cons a l => simp)
      subst e
      rw [List.length_append, List.length_singleton] at hc hn
      have hx := (h.todo x (by simp)).1
      have step : Goes C40 U40 (R40 g v) k40_l0 (s40_l0 g v seen (intL (R ++ [x]))) k40_l2 (s40_l2 g v (g.getD x []) (g.getD x []).length (0 : Nat) seen (intL R)) := .step fun J => by
        have hl : (intL (R ++ [x])).length = R.length + 1 := by rw [intL_len]; simp
        have hs : ((R.length + 1 : Nat) : Int) - 1 = (R.length : Nat) := by omega
        rw [e40_l0, hl, hs, wrap_up (by omega), Int.toNat_natCast, Nat.zero_add, last_get]
        simp (disch := first | omega | assumption | (rw [decide_eq_true_eq]; omega) | (rw [decide_eq_false_iff_not]; omega)) only [↓if_pos, ↓if_neg, if_true, if_false, wrap_up, Int.toNat_natCast, Nat.zero_add, Int.toNat_zero, List.drop_zero, Nat.sub_zero, last_take]
        rfl
      rcases rec_in hg _ 0 x seen R (Nat.zero_add _) h.pop (by omega) hs with ⟨k1, k2⟩ | ⟨seen', T', k1, k0, k2, k3⟩
      · rw [ledB_iff.2 k1]
        exact step.ends k2
      · cases n with
        | zero => omega
        | succ n => exact step.ends (k3.ends (rec_all hg n seen' T' (by omega) (by omega) k1 k0))
end
theorem rec_ok (g : List (List Int)) (v : Int) (hg : smallRows g) : CallOk tb Try.prog 40 (a40 g v) (yes (recB g v)) [.dead, .dead] := by
  refine fn40 g v ?_
  have hb := hg.1
  unfold recB
  by_cases hv : 0 ≤ v ∧ v < g.length
  · obtain ⟨k, rfl⟩ := Int.eq_ofNat_of_zero_le hv.1
    have hk : k < g.length := by omega
    rw [if_pos hv, Int.toNat_natCast]
    have hc := (Sk.start hk).count
    refine Goes.ends (.step fun J => ?_) (rec_all hg _ (List.replicate g.length false) [k] (Nat.le_refl _) (by simp only [List.length_singleton]; omega) (.start hk) (by
      rw [List.getD_eq_getElem?_getD, List.getElem?_replicate]
      split <;> rfl))
    rw [e40, Int.toNat_natCast]
    simp (disch := first | omega | assumption | (rw [decide_eq_true_eq]; omega) | (rw [decide_eq_false_iff_not]; omega)) only [↓if_pos, ↓if_neg, if_true, if_false, wrap_up, Int.toNat_natCast, Nat.zero_add]
    rfl
  · rw [if_neg hv]
    refine .step fun J => ?_
    rw [e40]
    by_cases c : v < 0
    · simp (disch := first | omega | assumption | (rw [decide_eq_true_eq]; omega) | (rw [decide_eq_false_iff_not]; omega)) only [↓if_pos, ↓if_neg, if_true, if_false, wrap_up, Int.toNat_natCast, Nat.zero_add]
      rfl
    · simp (disch := first | omega | assumption | (rw [decide_eq_true_eq]; omega) | (rw [decide_eq_false_iff_not]; omega)) only [↓if_pos, ↓if_neg, if_true, if_false, wrap_up, Int.toNat_natCast, Nat.zero_add]
      rfl
noncomputable def S40 : List (AV Ty) → T (AV Ty × List (AV Ty))
  | [.sl false 30 g, .v (.int .i64 v)] => .ite (smallRows g) (smallRows.dec g) (.ret (yes (recB g v), [.dead, .dead])) .fail
  | _ => .fail
theorem S40_ok (l : List (AV Ty)) (r : AV Ty) (outs : List (AV Ty)) (h : (S40 l).val = some (r, outs)) : CallOk tb Try.prog 40 l r outs := by
  unfold S40 at h
  split at h
  · rcases ite_val h with ⟨e, h⟩ | ⟨_, h⟩
    · cases h; exact rec_ok _ _ e
    · cases h
  · cases h
noncomputable def b41 : Code := bodyOf Try.f41
noncomputable def C41 : Cfg Ty := ⟨fun
  | 83 => some ([], S83)
  | _ => none, fun _ => false, 19, 0⟩
def U41 : Cuts := ⟨fun _ => none, fun _ => none, fun _ => none⟩
def a41 (g : List (List Int)) (v : Int) : List (AV Ty) := [.sl false (30 : Nat) g, .v (.int .i64 v)]
noncomputable def R41 (g : List (List Int)) (v : Int) : St Ty → EvR := resT tb C41 Try.f41.results.toList .keep (a41 g v)
theorem e41 (J : List Item → St Ty → EvR) (g : List (List Int)) (v : Int) : run tb C41 U41 J (R41 g v) 4096 [.code b41] ⟨slotsA (a41 g v) 0 0, heapA (a41 g v)⟩ =
    if decide (v < (0 : Int)) = false then
     if decide (v ≥ (↑g.length : Int)) = true then
      some (.v (.bool false), [.dead, .dead])
     else
      if smallRows g then
       if (0 : Int) ≤ v then
        if v < (↑(leadL g v).length : Int) then
         some (.v (.bool ((leadL g v).getD ((0 : Nat) + v.toNat) false)), [.dead, .dead])
        else
         none
       else
        none
      else
       none
    else
     some (.v (.bool false), [.dead, .dead]) := by kernel_rfl

theorem in41 : Entered 41 := ⟨Try.f41, b41, by kernel_rfl, by kernel_rfl, by kernel_rfl⟩
theorem fn41 (g : List (List Int)) (v : Int) {res : AV Ty} {outs : List (AV Ty)} (h : Ends C41 U41 (R41 g v) [.code b41] ⟨slotsA (a41 g v) 0 0, heapA (a41 g v)⟩ (some (res, outs))) : CallOk tb Try.prog 41 (a41 g v) res outs := by
  obtain ⟨n0, hn⟩ := h
  exact fn_ok (C := C41) (U := U41) (n := 0 + n0) (q := .keep) tbOk good (fun f mu S h => by
    unfold C41 at h
    simp only at h
    split at h
    · cases h; exact ⟨in83, S83_ok⟩
    · cases h) mixed (fn := Try.f41) (body := b41) (by kernel_rfl) (by kernel_rfl) rfl rfl (by show 2 ≤ 19; omega) (hn 0)
theorem rrec_ok (g : List (List Int)) (v : Int) (hg : smallRows g) : CallOk tb Try.prog 41 (a41 g v) (yes (recB g v)) [.dead, .dead] := by
  refine fn41 g v (.step fun J => ?_)
  unfold recB
  rw [e41]
  by_cases hv : 0 ≤ v ∧ v < g.length
  · obtain ⟨k, rfl⟩ := Int.eq_ofNat_of_zero_le hv.1
    have hk : k < g.length := by omega
    have := leadL_len g k
    have e : (leadL g k).getD k false = ledB g k k := leadL_get hk hk
    rw [Int.toNat_natCast, Nat.zero_add, e]
    simp (disch := first | omega | assumption | (rw [decide_eq_true_eq]; omega) | (rw [decide_eq_false_iff_not]; omega)) only [↓if_pos, ↓if_neg, if_true, if_false, wrap_up, Int.toNat_natCast, Nat.zero_add]
    rfl
  · by_cases c : v < 0
    · simp (disch := first | omega | assumption | (rw [decide_eq_true_eq]; omega) | (rw [decide_eq_false_iff_not]; omega)) only [↓if_pos, ↓if_neg, if_true, if_false, wrap_up, Int.toNat_natCast, Nat.zero_add]
      rfl
    · simp (disch := first | omega | assumption | (rw [decide_eq_true_eq]; omega) | (rw [decide_eq_false_iff_not]; omega)) only [↓if_pos, ↓if_neg, if_true, if_false, wrap_up, Int.toNat_natCast, Nat.zero_add]
      rfl
noncomputable def S41 : List (AV Ty) → T (AV Ty × List (AV Ty))
  | [.sl false 30 g, .v (.int .i64 v)] => .ite (smallRows g) (smallRows.dec g) (.ret (yes (recB g v), [.dead, .dead])) .fail
  | _ => .fail
theorem S41_ok (l : List (AV Ty)) (r : AV Ty) (outs : List (AV Ty)) (h : (S41 l).val = some (r, outs)) : CallOk tb Try.prog 41 l r outs := by
  unfold S41 at h
  split at h
  · rcases ite_val h with ⟨e, h⟩ | ⟨_, h⟩
    · cases h; exact rrec_ok _ _ e
    · cases h
  · cases h
end Go.Proofs.Ytggibjbcbicpjaa.Ev
