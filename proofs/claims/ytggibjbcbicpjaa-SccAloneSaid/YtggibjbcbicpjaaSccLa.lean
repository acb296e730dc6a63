/- plnlaw14.SccTells and SccOrders: they answer true. -/
import Derived.Test.YtggibjbcbicpjaaSccK
namespace Go.Proofs.Ytggibjbcbicpjaa.Ev
open Go
set_option linter.unusedVariables false
set_option linter.unusedSimpArgs false
noncomputable def b7 : Code := bodyOf Try.f7
noncomputable def C7 : Cfg Ty := ⟨fun
  | 38 => some ([], S38)
  | 39 => some ([], S39)
  | 40 => some ([], S40)
  | 41 => some ([], S41)
  | 42 => some ([], S42)
  | 43 => some ([], S43)
  | 44 => some ([], S44)
  | 45 => some ([], S45)
  | 46 => some ([], S46)
  | 29 => some ([], S29)
  | _ => none, fun _ => false, 48, 0⟩
def U7 : Cuts := ⟨fun
  | 0 => some [(0, none), (1, none)]
  | _ => none, fun
  | 0 => some [(0, none), (1, none), (5, none)]
  | _ => none, fun _ => none⟩
/-- join 0: live: 0, 1 -/
noncomputable def k7_j0 : List Item := [.code (sndC (sndC (sndC (sndC b7))))]
/-- loop 0: live: 0, 1, 5 -/
noncomputable def k7_l0 : List Item := [.code (inC (inC (sndC (fstC (sndC (sndC (sndC b7))))))), .inLoop (inC (inC (sndC (fstC (sndC (sndC (sndC b7))))))), .inBlock 0, .code (sndC (sndC (sndC (sndC b7))))]
def a7 (g : List (List Int)) (v : Int) : List (AV Ty) := [.sl false (30 : Nat) g, .v (.int .i64 v)]
noncomputable def R7 (g : List (List Int)) (v : Int) : St Ty → EvR := resT tb C7 Try.f7.results.toList .keep (a7 g v)
def s7_l0 (g : List (List Int)) (v : Int) (v5 : Int) : St Ty := St.mk [(0, .sl false (30) g), (1, .v (.int .i64 v)), (5, .v (.int .i64 v5))] []
def s7_j0 (g : List (List Int)) (v : Int)  : St Ty := St.mk [(0, .sl false (30) g), (1, .v (.int .i64 v))] []
theorem e7 (J : List Item → St Ty → EvR) (g : List (List Int)) (v : Int) : run tb C7 U7 J (R7 g v) 4096 [.code b7] ⟨slotsA (a7 g v) 0 0, heapA (a7 g v)⟩ =
    if (!lightB g) = true then
     some (.v (.bool true), [.dead, .dead])
    else
     J k7_l0 (s7_l0 g v (0 : Int)) := by kernel_rfl
theorem e7_l0 (J : List Item → St Ty → EvR) (g : List (List Int)) (v : Int) (v5 : Int) : run tb C7 U7 J (R7 g v) 4096 k7_l0 (s7_l0 g v v5) =
    if decide (v5 < (↑g.length : Int)) = true then
     if smallRows g then
      if smallRows g then
       if (!recB g v5 == recB g v5) = true then
        some (.v (.bool false), [.dead, .dead])
       else
        J k7_l0 (s7_l0 g v (IntKind.i64.wrap (v5 + (1 : Int))))
      else
       none
     else
      none
    else
     J k7_j0 (s7_j0 g v) := by kernel_rfl
theorem e7_j0 (J : List Item → St Ty → EvR) (g : List (List Int)) (v : Int)  : run tb C7 U7 J (R7 g v) 4096 k7_j0 (s7_j0 g v) =
    if smallRows g then
     if smallRows g then
      if smallRows g then
       if (recB g v == recB g v) = true then
        if smallRows g then
         if rowsIn (setsI g) then
          if sameRows (setsI g) (setsI g) = true then
           if smallRows g then
            if smallRows (setsI g) then
             if (setsI g).flatten.length ≤ (4611686018427387904 : Nat) then
              some (.v (.bool (same3 (setsI g).flatten (setsI g).flatten)), [.dead, .dead])
             else
              none
            else
             none
           else
            none
          else
           some (.v (.bool false), [.dead, .dead])
         else
          none
        else
         none
       else
        some (.v (.bool false), [.dead, .dead])
      else
       none
     else
      none
    else
     none := by kernel_rfl

theorem in7 : Entered 7 := ⟨Try.f7, b7, by kernel_rfl, by kernel_rfl, by kernel_rfl⟩
theorem fn7 (g : List (List Int)) (v : Int) {res : AV Ty} {outs : List (AV Ty)} (h : Ends C7 U7 (R7 g v) [.code b7] ⟨slotsA (a7 g v) 0 0, heapA (a7 g v)⟩ (some (res, outs))) : CallOk tb Try.prog 7 (a7 g v) res outs := by
  obtain ⟨n0, hn⟩ := h
  exact fn_ok (C := C7) (U := U7) (n := 0 + n0) (q := .keep) tbOk good (fun f mu S h => by
    unfold C7 at h
    simp only at h
    split at h
    · cases h; exact ⟨in38, S38_ok⟩
    · cases h; exact ⟨in39, S39_ok⟩
    · cases h; exact ⟨in40, S40_ok⟩
    · cases h; exact ⟨in41, S41_ok⟩
    · cases h; exact ⟨in42, S42_ok⟩
    · cases h; exact ⟨in43, S43_ok⟩
    · cases h; exact ⟨in44, S44_ok⟩
    · cases h; exact ⟨in45, S45_ok⟩
    · cases h; exact ⟨in46, S46_ok⟩
    · cases h; exact ⟨in29, S29_ok⟩
    · cases h) mixed (fn := Try.f7) (body := b7) (by kernel_rfl) (by kernel_rfl) rfl rfl (by show 2 ≤ 48; omega) (hn 0)
theorem rowsIn_of {g : List (List Int)} (h : smallRows g) : rowsIn g := ⟨Nat.le_trans h.1 (by omega), fun r hr => Nat.le_trans (h.2 r hr) (by omega)⟩
theorem sameRows_self (a : List (List Int)) : sameRows a a = true := decide_eq_true rfl
theorem same3_self (a : List Int) : same3 a a = true := decide_eq_true rfl
theorem tells_ok (g : List (List Int)) (v : Int) : CallOk tb Try.prog 7 (a7 g v) (yes true) [.dead, .dead] := by
  refine fn7 g v ?_
  by_cases hl : light g
  · have hg := small_of hl
    have hb : lightB g = true := lightB_iff.2 hl
    have hs := setsI_small hg
    have hr := rowsIn_of hs
    have hf : (setsI g).flatten.length ≤ 4611686018427387904 := by rw [setsI_flat_len]; have := hg.1; omega
    refine Goes.ends (.step (k' := k7_l0) (s' := s7_l0 g v (0 : Nat)) fun J => ?_) (Goes.ends (Goes.upto (fun i => s7_l0 g v i) g.length (fun i hi => .step fun J => ?_) g.length (Nat.le_refl _)) (Goes.ends (.step (k' := k7_j0) (s' := s7_j0 g v) fun J => ?_) (.step fun J => ?_)))
    · rw [e7, hb]
      rfl
    · have g1 := hg.1
      have c : ¬ (!recB g (i : Int) == recB g (i : Int)) = true := by simp
      rw [e7_l0, wrap_up (by omega)]
      simp (disch := first | omega | assumption | (rw [decide_eq_true_eq]; omega) | (rw [decide_eq_false_iff_not]; omega)) only [↓if_pos, ↓if_neg, if_true, if_false, wrap_up, Int.toNat_natCast, Nat.zero_add, if_neg c]
      rfl
    · rw [e7_l0]
      simp (disch := first | omega | assumption | (rw [decide_eq_true_eq]; omega) | (rw [decide_eq_false_iff_not]; omega)) only [↓if_pos, ↓if_neg, if_true, if_false, wrap_up, Int.toNat_natCast, Nat.zero_add]
    · have c : (recB g v == recB g v) = true := by simp
      rw [e7_j0, same3_self, sameRows_self, c]
      simp (disch := first | omega | assumption | (rw [decide_eq_true_eq]; omega) | (rw [decide_eq_false_iff_not]; omega)) only [↓if_pos, ↓if_neg, if_true, if_false, wrap_up, Int.toNat_natCast, Nat.zero_add]
      rfl
  · have hb : lightB g = false := by rw [← Bool.not_eq_true, lightB_iff]; exact hl
    refine .step fun J => ?_
    rw [e7, hb]
    rfl
noncomputable def b8 : Code := bodyOf Try.f8
noncomputable def C8 : Cfg Ty := ⟨fun
  | 38 => some ([], S38)
  | 39 => some ([], S39)
  | 44 => some ([], S44)
  | 45 => some ([], S45)
  | 46 => some ([], S46)
  | 29 => some ([], S29)
  | _ => none, fun _ => false, 139, 0⟩
def U8 : Cuts := ⟨fun
  | 0 => some [(0, none), (3, none), (4, none), (5, none)]
  | 1 => some [(0, none), (3, none), (4, none), (5, none), (6, none)]
  | 2 => some [(0, none), (3, none), (4, none), (5, none), (6, none)]
  | 4 => some [(0, none), (3, none)]
  | 5 => some [(0, none), (3, none), (4, none), (9, none)]
  | 6 => some [(0, none), (3, none), (4, none), (9, none)]
  | _ => none, fun
  | 0 => some [(0, none), (3, none), (4, none), (5, none), (6, none)]
  | 2 => some [(0, none), (3, none), (4, none), (5, none), (6, none), (7, none)]
  | 4 => some [(0, none), (3, none), (4, none), (9, none)]
  | 6 => some [(0, none), (3, none), (4, none), (9, none), (10, none)]
  | _ => none, fun _ => none⟩
/-- join 0: live: 0, 3, 4, 5 -/
noncomputable def k8_j0 : List Item := [.code (sndC (sndC (sndC (sndC (sndC (sndC (sndC b8)))))))]
/-- loop 0: live: 0, 3, 4, 5, 6 -/
noncomputable def k8_l0 : List Item := [.code (inC (inC (sndC (fstC (sndC (sndC (sndC (sndC (sndC (sndC b8)))))))))), .inLoop (inC (inC (sndC (fstC (sndC (sndC (sndC (sndC (sndC (sndC b8)))))))))), .inBlock 0, .code (sndC (sndC (sndC (sndC (sndC (sndC (sndC b8)))))))]
/-- join 1: live: 0, 3, 4, 5, 6 -/
noncomputable def k8_j1 : List Item := [.code (sndC (sndC (inC (inC (sndC (fstC (sndC (sndC (sndC (sndC (sndC (sndC b8)))))))))))), .inLoop (inC (inC (sndC (fstC (sndC (sndC (sndC (sndC (sndC (sndC b8)))))))))), .inBlock 0, .code (sndC (sndC (sndC (sndC (sndC (sndC (sndC b8)))))))]
/-- join 2: live: 0, 3, 4, 5, 6 -/
noncomputable def k8_j2 : List Item := [.inBlock 1, .code (sndC (sndC (inC (inC (sndC (fstC (sndC (sndC (sndC (sndC (sndC (sndC b8)))))))))))), .inLoop (inC (inC (sndC (fstC (sndC (sndC (sndC (sndC (sndC (sndC b8)))))))))), .inBlock 0, .code (sndC (sndC (sndC (sndC (sndC (sndC (sndC b8)))))))]
/-- loop 2: live: 0, 3, 4, 5, 6, 7 -/
noncomputable def k8_l2 : List Item := [.code (inC (inC (sndC (sndC (inC (fstC (sndC (inC (inC (sndC (fstC (sndC (sndC (sndC (sndC (sndC (sndC b8))))))))))))))))), .inLoop (inC (inC (sndC (sndC (inC (fstC (sndC (inC (inC (sndC (fstC (sndC (sndC (sndC (sndC (sndC (sndC b8))))))))))))))))), .inBlock 2, .inBlock 1, .code (sndC (sndC (inC (inC (sndC (fstC (sndC (sndC (sndC (sndC (sndC (sndC b8)))))))))))), .inLoop (inC (inC (sndC (fstC (sndC (sndC (sndC (sndC (sndC (sndC b8)))))))))), .inBlock 0, .code (sndC (sndC (sndC (sndC (sndC (sndC (sndC b8)))))))]
/-- join 4: live: 0, 3 -/
noncomputable def k8_j4 : List Item := [.code (sndC (sndC (sndC (sndC (sndC (sndC (sndC (sndC (sndC b8)))))))))]
/-- loop 4: live: 0, 3, 4, 9 -/
noncomputable def k8_l4 : List Item := [.code (inC (inC (sndC (fstC (sndC (sndC (sndC (sndC (sndC (sndC (sndC (sndC b8)))))))))))), .inLoop (inC (inC (sndC (fstC (sndC (sndC (sndC (sndC (sndC (sndC (sndC (sndC b8)))))))))))), .inBlock 4, .code (sndC (sndC (sndC (sndC (sndC (sndC (sndC (sndC (sndC b8)))))))))]
/-- join 5: live: 0, 3, 4, 9 -/
noncomputable def k8_j5 : List Item := [.code (sndC (sndC (inC (inC (sndC (fstC (sndC (sndC (sndC (sndC (sndC (sndC (sndC (sndC b8)))))))))))))), .inLoop (inC (inC (sndC (fstC (sndC (sndC (sndC (sndC (sndC (sndC (sndC (sndC b8)))))))))))), .inBlock 4, .code (sndC (sndC (sndC (sndC (sndC (sndC (sndC (sndC (sndC b8)))))))))]
/-- join 6: live: 0, 3, 4, 9 -/
noncomputable def k8_j6 : List Item := [.inBlock 5, .code (sndC (sndC (inC (inC (sndC (fstC (sndC (sndC (sndC (sndC (sndC (sndC (sndC (sndC b8)))))))))))))), .inLoop (inC (inC (sndC (fstC (sndC (sndC (sndC (sndC (sndC (sndC (sndC (sndC b8)))))))))))), .inBlock 4, .code (sndC (sndC (sndC (sndC (sndC (sndC (sndC (sndC (sndC b8)))))))))]
/-- loop 6: live: 0, 3, 4, 9, 10 -/
noncomputable def k8_l6 : List Item := [.code (inC (inC (sndC (inC (fstC (sndC (inC (inC (sndC (fstC (sndC (sndC (sndC (sndC (sndC (sndC (sndC (sndC b8)))))))))))))))))), .inLoop (inC (inC (sndC (inC (fstC (sndC (inC (inC (sndC (fstC (sndC (sndC (sndC (sndC (sndC (sndC (sndC (sndC b8)))))))))))))))))), .inBlock 6, .inBlock 5, .code (sndC (sndC (inC (inC (sndC (fstC (sndC (sndC (sndC (sndC (sndC (sndC (sndC (sndC b8)))))))))))))), .inLoop (inC (inC (sndC (fstC (sndC (sndC (sndC (sndC (sndC (sndC (sndC (sndC b8)))))))))))), .inBlock 4, .code (sndC (sndC (sndC (sndC (sndC (sndC (sndC (sndC (sndC b8)))))))))]
def a8 (g : List (List Int)) : List (AV Ty) := [.sl false (30 : Nat) g]
noncomputable def R8 (g : List (List Int)) : St Ty → EvR := resT tb C8 Try.f8.results.toList .keep (a8 g)
def s8_l0 (g : List (List Int)) (v3 : List (List Int)) (v5 : Int) (v6 : Int) (h0 : List Int) : St Ty := St.mk [(0, .sl false (30) g), (3, .sl false (30) v3), (4, .ref (0) [] none false), (5, .v (.int .i64 v5)), (6, .v (.int .i64 v6))] [some (Root.mk (3) false h0)]
def s8_l2 (g : List (List Int)) (v3 : List (List Int)) (v5 : Int) (v6 : Int) (v7 : Int) (h0 : List Int) : St Ty := St.mk [(0, .sl false (30) g), (3, .sl false (30) v3), (4, .ref (0) [] none false), (5, .v (.int .i64 v5)), (6, .v (.int .i64 v6)), (7, .v (.int .i64 v7))] [some (Root.mk (3) false h0)]
def s8_j0 (g : List (List Int)) (v3 : List (List Int)) (v5 : Int) (h0 : List Int) : St Ty := St.mk [(0, .sl false (30) g), (3, .sl false (30) v3), (4, .ref (0) [] none false), (5, .v (.int .i64 v5))] [some (Root.mk (3) false h0)]
def s8_j2 (g : List (List Int)) (v3 : List (List Int)) (v5 : Int) (v6 : Int) (h0 : List Int) : St Ty := St.mk [(0, .sl false (30) g), (3, .sl false (30) v3), (4, .ref (0) [] none false), (5, .v (.int .i64 v5)), (6, .v (.int .i64 v6))] [some (Root.mk (3) false h0)]
def s8_l4 (g : List (List Int)) (v3 : List (List Int)) (v9 : Int) (h0 : List Int) : St Ty := St.mk [(0, .sl false (30) g), (3, .sl false (30) v3), (4, .ref (0) [] none false), (9, .v (.int .i64 v9))] [some (Root.mk (3) false h0)]
def s8_j1 (g : List (List Int)) (v3 : List (List Int)) (v5 : Int) (v6 : Int) (h0 : List Int) : St Ty := St.mk [(0, .sl false (30) g), (3, .sl false (30) v3), (4, .ref (0) [] none false), (5, .v (.int .i64 v5)), (6, .v (.int .i64 v6))] [some (Root.mk (3) false h0)]
def s8_l6 (g : List (List Int)) (v3 : List (List Int)) (v9 : Int) (v10 : Int) (h0 : List Int) : St Ty := St.mk [(0, .sl false (30) g), (3, .sl false (30) v3), (4, .ref (0) [] none false), (9, .v (.int .i64 v9)), (10, .v (.int .i64 v10))] [some (Root.mk (3) false h0)]
def s8_j4 (g : List (List Int)) (v3 : List (List Int)) : St Ty := St.mk [(0, .sl false (30) g), (3, .sl false (30) v3)] []
def s8_j6 (g : List (List Int)) (v3 : List (List Int)) (v9 : Int) (h0 : List Int) : St Ty := St.mk [(0, .sl false (30) g), (3, .sl false (30) v3), (4, .ref (0) [] none false), (9, .v (.int .i64 v9))] [some (Root.mk (3) false h0)]
def s8_j5 (g : List (List Int)) (v3 : List (List Int)) (v9 : Int) (h0 : List Int) : St Ty := St.mk [(0, .sl false (30) g), (3, .sl false (30) v3), (4, .ref (0) [] none false), (9, .v (.int .i64 v9))] [some (Root.mk (3) false h0)]
theorem e8 (J : List Item → St Ty → EvR) (g : List (List Int)) : run tb C8 U8 J (R8 g) 4096 [.code b8] ⟨slotsA (a8 g) 0 0, heapA (a8 g)⟩ =
    if (!lightB g) = true then
     some (.v (.bool true), [.dead])
    else
     if smallRows g then
      if (0 : Int) ≤ (↑g.length : Int) ∧ (↑g.length : Int) ≤ (↑g.length : Int) ∧ (↑g.length : Int) ≤ (1099511627776 : Int) ∧ (↑g.length : Int) * (↑(8 : Nat) : Int) ≤ (1099511627776 : Int) then
       J k8_l0 (s8_l0 g (setsI g) (0 : Int) (0 : Int) (List.replicate (↑g.length : Int).toNat (0 : Int)))
      else
       none
     else
      none := by kernel_rfl
theorem e8_l0 (J : List Item → St Ty → EvR) (g : List (List Int)) (v3 : List (List Int)) (v5 : Int) (v6 : Int) (h0 : List Int) : run tb C8 U8 J (R8 g) 4096 k8_l0 (s8_l0 g v3 v5 v6 h0) =
    if decide (v6 < (↑v3.length : Int)) = true then
     if (0 : Int) ≤ v6 then
      if v6 < (↑v3.length : Int) then
       if ((↑(List.length (v3.getD v6.toNat [])) : Int) == (0 : Int)) = true then
        some (.v (.bool false), [.dead])
       else
        J k8_l2 (s8_l2 g (v3) (v5) (v6) (0 : Int) (h0))
      else
       none
     else
      none
    else
     J k8_j0 (s8_j0 g (v3) (v5) (h0)) := by kernel_rfl
theorem e8_l2 (J : List Item → St Ty → EvR) (g : List (List Int)) (v3 : List (List Int)) (v5 : Int) (v6 : Int) (v7 : Int) (h0 : List Int) : run tb C8 U8 J (R8 g) 4096 k8_l2 (s8_l2 g v3 v5 v6 v7 h0) =
    if (0 : Int) ≤ v6 then
     if v6 < (↑v3.length : Int) then
      if decide (v7 < (↑(List.length (v3.getD v6.toNat [])) : Int)) = true then
       if (0 : Int) ≤ v6 then
        if v6 < (↑v3.length : Int) then
         if (0 : Int) ≤ v7 then
          if v7 < (↑(List.length (v3.getD v6.toNat [])) : Int) then
           if decide (List.getD (v3.getD v6.toNat []) v7.toNat (0 : Int) < (0 : Int)) = false then
            if decide (List.getD (v3.getD v6.toNat []) v7.toNat (0 : Int) ≥ (↑g.length : Int)) = false then
             if (0 : Int) ≤ List.getD (v3.getD v6.toNat []) v7.toNat (0 : Int) then
              if List.getD (v3.getD v6.toNat []) v7.toNat (0 : Int) < (↑h0.length : Int) then
               if (h0.getD ((0 : Nat) + Int.toNat (List.getD (v3.getD v6.toNat []) v7.toNat (0 : Int))) (0 : Int) != (0 : Int)) = false then
                if decide (v7 > (0 : Int)) = true then
                 if (0 : Int) ≤ v6 then
                  if v6 < (↑v3.length : Int) then
                   if (0 : Int) ≤ IntKind.i64.wrap (v7 - (1 : Int)) then
                    if IntKind.i64.wrap (v7 - (1 : Int)) < (↑(List.length (v3.getD v6.toNat [])) : Int) then
                     if decide (List.getD (v3.getD v6.toNat []) (IntKind.i64.wrap (v7 - (1 : Int))).toNat (0 : Int) ≥ List.getD (v3.getD v6.toNat []) v7.toNat (0 : Int)) = true then
                      some (.v (.bool false), [.dead])
                     else
                      if (0 : Int) ≤ List.getD (v3.getD v6.toNat []) v7.toNat (0 : Int) then
                       if List.getD (v3.getD v6.toNat []) v7.toNat (0 : Int) < (↑h0.length : Int) then
                        J k8_l2 (s8_l2 g (v3) (IntKind.i64.wrap (v5 + (1 : Int))) (v6) (IntKind.i64.wrap (v7 + (1 : Int))) (h0.set ((0 : Nat) + Int.toNat (List.getD (v3.getD v6.toNat []) v7.toNat (0 : Int))) (IntKind.i64.wrap (v6 + (1 : Int)))))
                       else
                        none
                      else
                       none
                    else
                     none
                   else
                    none
                  else
                   none
                 else
                  none
                else
                 if (0 : Int) ≤ List.getD (v3.getD v6.toNat []) v7.toNat (0 : Int) then
                  if List.getD (v3.getD v6.toNat []) v7.toNat (0 : Int) < (↑h0.length : Int) then
                   J k8_l2 (s8_l2 g (v3) (IntKind.i64.wrap (v5 + (1 : Int))) (v6) (IntKind.i64.wrap (v7 + (1 : Int))) (h0.set ((0 : Nat) + Int.toNat (List.getD (v3.getD v6.toNat []) v7.toNat (0 : Int))) (IntKind.i64.wrap (v6 + (1 : Int)))))
                  else
                   none
                 else
                  none
               else
                some (.v (.bool false), [.dead])
              else
               none
             else
              none
            else
             some (.v (.bool false), [.dead])
           else
            some (.v (.bool false), [.dead])
          else
           none
         else
          none
        else
         none
       else
        none
      else
       J k8_j2 (s8_j2 g (v3) (v5) (v6) (h0))
     else
      none
    else
     none := by kernel_rfl
theorem e8_j0 (J : List Item → St Ty → EvR) (g : List (List Int)) (v3 : List (List Int)) (v5 : Int) (h0 : List Int) : run tb C8 U8 J (R8 g) 4096 k8_j0 (s8_j0 g v3 v5 h0) =
    if (v5 != (↑g.length : Int)) = true then
     some (.v (.bool false), [.dead])
    else
     J k8_l4 (s8_l4 g (v3) (0 : Int) (h0)) := by kernel_rfl
theorem e8_j2 (J : List Item → St Ty → EvR) (g : List (List Int)) (v3 : List (List Int)) (v5 : Int) (v6 : Int) (h0 : List Int) : run tb C8 U8 J (R8 g) 4096 k8_j2 (s8_j2 g v3 v5 v6 h0) =
    J k8_j1 (s8_j1 g (v3) (v5) (v6) (h0)) := by kernel_rfl
theorem e8_l4 (J : List Item → St Ty → EvR) (g : List (List Int)) (v3 : List (List Int)) (v9 : Int) (h0 : List Int) : run tb C8 U8 J (R8 g) 4096 k8_l4 (s8_l4 g v3 v9 h0) =
    if decide (v9 < (↑g.length : Int)) = true then
     J k8_l6 (s8_l6 g (v3) (v9) (0 : Int) (h0))
    else
     J k8_j4 (s8_j4 g (v3)) := by kernel_rfl
theorem e8_j1 (J : List Item → St Ty → EvR) (g : List (List Int)) (v3 : List (List Int)) (v5 : Int) (v6 : Int) (h0 : List Int) : run tb C8 U8 J (R8 g) 4096 k8_j1 (s8_j1 g v3 v5 v6 h0) =
    J k8_l0 (s8_l0 g (v3) (v5) (IntKind.i64.wrap (v6 + (1 : Int))) (h0)) := by kernel_rfl
theorem e8_l6 (J : List Item → St Ty → EvR) (g : List (List Int)) (v3 : List (List Int)) (v9 : Int) (v10 : Int) (h0 : List Int) : run tb C8 U8 J (R8 g) 4096 k8_l6 (s8_l6 g v3 v9 v10 h0) =
    if (0 : Int) ≤ v9 then
     if v9 < (↑g.length : Int) then
      if decide (v10 < (↑(List.length (g.getD v9.toNat [])) : Int)) = true then
       if (0 : Int) ≤ v9 then
        if v9 < (↑g.length : Int) then
         if (0 : Int) ≤ v10 then
          if v10 < (↑(List.length (g.getD v9.toNat [])) : Int) then
           if decide (List.getD (g.getD v9.toNat []) v10.toNat (0 : Int) ≥ (0 : Int)) = true then
            if decide (List.getD (g.getD v9.toNat []) v10.toNat (0 : Int) < (↑g.length : Int)) = true then
             if (0 : Int) ≤ List.getD (g.getD v9.toNat []) v10.toNat (0 : Int) then
              if List.getD (g.getD v9.toNat []) v10.toNat (0 : Int) < (↑h0.length : Int) then
               if (0 : Int) ≤ v9 then
                if v9 < (↑h0.length : Int) then
                 if decide (h0.getD ((0 : Nat) + Int.toNat (List.getD (g.getD v9.toNat []) v10.toNat (0 : Int))) (0 : Int) > h0.getD ((0 : Nat) + v9.toNat) (0 : Int)) = true then
                  some (.v (.bool false), [.dead])
                 else
                  J k8_l6 (s8_l6 g (v3) (v9) (IntKind.i64.wrap (v10 + (1 : Int))) (h0))
                else
                 none
               else
                none
              else
               none
             else
              none
            else
             J k8_l6 (s8_l6 g (v3) (v9) (IntKind.i64.wrap (v10 + (1 : Int))) (h0))
           else
            J k8_l6 (s8_l6 g (v3) (v9) (IntKind.i64.wrap (v10 + (1 : Int))) (h0))
          else
           none
         else
          none
        else
         none
       else
        none
      else
       J k8_j6 (s8_j6 g (v3) (v9) (h0))
     else
      none
    else
     none := by kernel_rfl
theorem e8_j4 (J : List Item → St Ty → EvR) (g : List (List Int)) (v3 : List (List Int)) : run tb C8 U8 J (R8 g) 4096 k8_j4 (s8_j4 g v3) =
    if smallRows g then
     if smallRows v3 then
      if (setsI g).flatten.length ≤ (4611686018427387904 : Nat) then
       some (.v (.bool (same3 (setsI g).flatten v3.flatten)), [.dead])
      else
       none
     else
      none
    else
     none := by kernel_rfl
theorem e8_j6 (J : List Item → St Ty → EvR) (g : List (List Int)) (v3 : List (List Int)) (v9 : Int) (h0 : List Int) : run tb C8 U8 J (R8 g) 4096 k8_j6 (s8_j6 g v3 v9 h0) =
    J k8_j5 (s8_j5 g (v3) (v9) (h0)) := by kernel_rfl
theorem e8_j5 (J : List Item → St Ty → EvR) (g : List (List Int)) (v3 : List (List Int)) (v9 : Int) (h0 : List Int) : run tb C8 U8 J (R8 g) 4096 k8_j5 (s8_j5 g v3 v9 h0) =
    J k8_l4 (s8_l4 g (v3) (IntKind.i64.wrap (v9 + (1 : Int))) (h0)) := by kernel_rfl

theorem in8 : Entered 8 := ⟨Try.f8, b8, by kernel_rfl, by kernel_rfl, by kernel_rfl⟩
theorem fn8 (g : List (List Int)) {res : AV Ty} {outs : List (AV Ty)} (h : Ends C8 U8 (R8 g) [.code b8] ⟨slotsA (a8 g) 0 0, heapA (a8 g)⟩ (some (res, outs))) : CallOk tb Try.prog 8 (a8 g) res outs := by
  obtain ⟨n0, hn⟩ := h
  exact fn_ok (C := C8) (U := U8) (n := 0 + n0) (q := .keep) tbOk good (fun f mu S h => by
    unfold C8 at h
    simp only at h
    split at h
    · cases h; exact ⟨in38, S38_ok⟩
    · cases h; exact ⟨in39, S39_ok⟩
    · cases h; exact ⟨in44, S44_ok⟩
    · cases h; exact ⟨in45, S45_ok⟩
    · cases h; exact ⟨in46, S46_ok⟩
    · cases h; exact ⟨in29, S29_ok⟩
    · cases h) mixed (fn := Try.f8) (body := b8) (by kernel_rfl) (by kernel_rfl) rfl rfl (by show 1 ≤ 139; omega) (hn 0)
section
variable {g : List (List Int)} {i k : Nat}
theorem orders_in (hg : smallRows g) (hi : i < (setsN g).length) (hk : k < ((setsN g).getD i []).length) (c : Nat) (hcb : c ≤ 1000) :
    Goes C8 U8 (R8 g) k8_l2 (s8_l2 g (setsI g) (c + k : Nat) i k (atL g.length (setsN g) i k)) k8_l2 (s8_l2 g (setsI g) (c + (k + 1) : Nat) i (k + 1 : Nat) (atL g.length (setsN g) i (k + 1))) := .step fun J => by
  have g1 := hg.1
  have W := setsN_way g
  have hv := getD_in (d := 0) hk
  have hlt := W.lt _ (mem_flat.2 ⟨i, hi, hv⟩)
  have hc := W.count
  have hl := W.len
  have fr := W.at_fresh hi hk
  have st := W.at_step hi hk
  have l1 : (setsI g).length = (setsN g).length := intR_len _
  have l2 := intL_len ((setsN g).getD i [])
  have l3 := atL_len (n := g.length) (o := setsN g) (i := i) (k := k)
  have l4 := W.row _ (getD_in (d := []) hi)
  have row : (setsI g).getD i [] = intL ((setsN g).getD i []) := intR_get _ i
  have w1 : IntKind.i64.wrap ((i : Int) + 1) = (i : Int) + 1 := wrap_up (by omega)
  rw [e8_l2]
  simp only [decide_eq_true_eq, decide_eq_false_iff_not, Int.toNat_natCast, Nat.zero_add, row, intL_getD]
  rw [fr, w1, st]
  have c1 : ((0 : Int) != 0) = false := rfl
  rw [c1]
  cases k with
  | zero =>
    simp (disch := first | omega | assumption | (rw [decide_eq_true_eq]; omega) | (rw [decide_eq_false_iff_not]; omega)) only [↓if_pos, ↓if_neg, if_true, if_false, wrap_up, Int.toNat_natCast, Nat.zero_add, l1, l2, l3]
    rfl
  | succ k =>
    have up := inc_get (W.inc hi) (show k < k + 1 by omega) hk
    have d1 : IntKind.i64.wrap (((k + 1 : Nat) : Int) - 1) = (k : Nat) := by rw [wrap_up (by omega)]; omega
    rw [d1]
    simp only [Int.toNat_natCast, intL_getD]
    simp (disch := first | omega | assumption | (rw [decide_eq_true_eq]; omega) | (rw [decide_eq_false_iff_not]; omega)) only [↓if_pos, ↓if_neg, if_true, if_false, wrap_up, Int.toNat_natCast, Nat.zero_add, l1, l2, l3]
    rfl
theorem doneAt_len (hk : k ≤ ((setsN g).getD i []).length) : (doneAt (setsN g) i k).length = ((setsN g).take i).flatten.length + k := by
  unfold doneAt
  rw [List.length_append, List.length_take]
  omega
theorem orders_row (hg : smallRows g) (hi : i < (setsN g).length) :
    Goes C8 U8 (R8 g) k8_l0 (s8_l0 g (setsI g) ((setsN g).take i).flatten.length i (atL g.length (setsN g) i 0)) k8_l0 (s8_l0 g (setsI g) ((setsN g).take (i + 1)).flatten.length (i + 1 : Nat) (atL g.length (setsN g) (i + 1) 0)) := by
  have g1 := hg.1
  have W := setsN_way g
  have hc := W.count
  have hl := W.len
  have l1 : (setsI g).length = (setsN g).length := intR_len _
  have l2 := intL_len ((setsN g).getD i [])
  have pos := W.some_row hi
  have row : (setsI g).getD i [] = intL ((setsN g).getD i []) := intR_get _ i
  have fl : ((setsN g).take (i + 1)).flatten.length = ((setsN g).take i).flatten.length + ((setsN g).getD i []).length := by
    rw [List.take_add_one, List.flatten_append, List.length_append, List.getD_eq_getElem?_getD, List.getElem?_eq_getElem hi]
    simp
  have fb : ((setsN g).take i).flatten.length ≤ 1000 := by
    have h := (W.pre i hi).1.len
    omega
  refine Goes.trans (.step (k' := k8_l2) (s' := s8_l2 g (setsI g) (((setsN g).take i).flatten.length + 0 : Nat) i (0 : Nat) (atL g.length (setsN g) i 0)) fun J => ?_) (Goes.trans (Goes.upto (fun k => s8_l2 g (setsI g) (((setsN g).take i).flatten.length + k : Nat) i k (atL g.length (setsN g) i k)) ((setsN g).getD i []).length (fun k hk => orders_in hg hi hk _ (by omega)) _ (Nat.le_refl _)) (Goes.trans (.step (k' := k8_j2) (s' := s8_j2 g (setsI g) (((setsN g).take (i + 1)).flatten.length : Nat) i (atL g.length (setsN g) (i + 1) 0)) fun J => ?_) (Goes.trans (.step fun J => e8_j2 J _ _ _ _ _) (.step fun J => ?_))))
  · have c : (((intL ((setsN g).getD i [])).length : Int) == 0) = false := by rw [← Bool.not_eq_true, beq_iff_eq]; omega
    rw [e8_l0]
    simp only [Int.toNat_natCast, row]
    rw [c]
    simp (disch := first | omega | assumption | (rw [decide_eq_true_eq]; omega) | (rw [decide_eq_false_iff_not]; omega)) only [↓if_pos, ↓if_neg, if_true, if_false, wrap_up, Int.toNat_natCast, Nat.zero_add, Bool.false_eq_true]
    rfl
  · rw [e8_l2]
    simp only [Int.toNat_natCast, row]
    rw [atL_next hi, fl]
    simp (disch := first | omega | assumption | (rw [decide_eq_true_eq]; omega) | (rw [decide_eq_false_iff_not]; omega)) only [↓if_pos, ↓if_neg, if_true, if_false, wrap_up, Int.toNat_natCast, Nat.zero_add, l1, l2]
  · rw [e8_j1, wrap_up (by omega)]
    rfl
theorem orders_edge (hg : smallRows g) (hi : i < g.length) (hk : k < (g.getD i []).length) :
    Goes C8 U8 (R8 g) k8_l6 (s8_l6 g (setsI g) i k (atL g.length (setsN g) (setsN g).length 0)) k8_l6 (s8_l6 g (setsI g) i (k + 1 : Nat) (atL g.length (setsN g) (setsN g).length 0)) := .step fun J => by
  have g1 := hg.1
  have g2 := hg.2 _ (getD_in (d := []) hi)
  have l3 := atL_len (n := g.length) (o := setsN g) (i := (setsN g).length) (k := 0)
  have w1 : IntKind.i64.wrap ((k : Int) + 1) = ((k + 1 : Nat) : Int) := by rw [wrap_up (by omega)]; rfl
  rw [e8_l6]
  simp only [decide_eq_true_eq, decide_eq_false_iff_not]
  simp only [Int.toNat_natCast, Nat.zero_add]
  rw [w1]
  by_cases c1 : 0 ≤ (g.getD i []).getD k 0
  · by_cases c2 : (g.getD i []).getD k 0 < g.length
    · have he : ed g i ((g.getD i []).getD k 0).toNat := ⟨hi, by omega, by rw [Int.toNat_of_nonneg c1]; exact getD_in hk⟩
      have le := (setsN_way g).at_le (setsN_full g) he
      simp (disch := first | omega | assumption | (rw [decide_eq_true_eq]; omega) | (rw [decide_eq_false_iff_not]; omega)) only [↓if_pos, ↓if_neg, if_true, if_false, wrap_up, Int.toNat_natCast, Nat.zero_add, l3]
    · simp (disch := first | omega | assumption | (rw [decide_eq_true_eq]; omega) | (rw [decide_eq_false_iff_not]; omega)) only [↓if_pos, ↓if_neg, if_true, if_false, wrap_up, Int.toNat_natCast, Nat.zero_add, l3]
  · simp (disch := first | omega | assumption | (rw [decide_eq_true_eq]; omega) | (rw [decide_eq_false_iff_not]; omega)) only [↓if_pos, ↓if_neg, if_true, if_false, wrap_up, Int.toNat_natCast, Nat.zero_add, l3]
end
theorem orders_ok (g : List (List Int)) : CallOk tb Try.prog 8 (a8 g) (yes true) [.dead] := by
  refine fn8 g ?_
  by_cases hl : light g
  · have hg := small_of hl
    have g1 := hg.1
    have hb : lightB g = true := lightB_iff.2 hl
    have hs := setsI_small hg
    have W := setsN_way g
    have l1 : (setsI g).length = (setsN g).length := intR_len _
    have hf : (setsI g).flatten.length ≤ 4611686018427387904 := by rw [setsI_flat_len]; omega
    have full : ((setsN g).take (setsN g).length).flatten.length = g.length := by rw [List.take_length]; exact (W.full).1 (setsN_full g)
    refine Goes.ends (.step (k' := k8_l0) (s' := s8_l0 g (setsI g) ((setsN g).take 0).flatten.length (0 : Nat) (atL g.length (setsN g) 0 0)) fun J => ?_) (Goes.ends (Goes.upto (fun i => s8_l0 g (setsI g) ((setsN g).take i).flatten.length i (atL g.length (setsN g) i 0)) (setsN g).length (fun i hi => orders_row hg hi) _ (Nat.le_refl _)) (Goes.ends (.step (k' := k8_j0) (s' := s8_j0 g (setsI g) g.length (atL g.length (setsN g) (setsN g).length 0)) fun J => ?_) (Goes.ends (.step (k' := k8_l4) (s' := s8_l4 g (setsI g) (0 : Nat) (atL g.length (setsN g) (setsN g).length 0)) fun J => ?_) (Goes.ends (Goes.upto (fun i => s8_l4 g (setsI g) i (atL g.length (setsN g) (setsN g).length 0)) g.length (fun i hi => Goes.trans (.step (k' := k8_l6) (s' := s8_l6 g (setsI g) i (0 : Nat) (atL g.length (setsN g) (setsN g).length 0)) fun J => ?_) (Goes.trans (Goes.upto (fun k => s8_l6 g (setsI g) i k (atL g.length (setsN g) (setsN g).length 0)) (g.getD i []).length (fun k hk => orders_edge hg hi hk) _ (Nat.le_refl _)) (Goes.trans (.step (k' := k8_j6) (s' := s8_j6 g (setsI g) i (atL g.length (setsN g) (setsN g).length 0)) fun J => ?_) (Goes.trans (.step fun J => e8_j6 J _ _ _ _) (.step fun J => ?_))))) _ (Nat.le_refl _)) (Goes.ends (.step (k' := k8_j4) (s' := s8_j4 g (setsI g)) fun J => ?_) (.step fun J => ?_))))))
    · rw [e8, hb, Int.toNat_natCast, atL_zero]
      simp (disch := first | omega | assumption | (rw [decide_eq_true_eq]; omega) | (rw [decide_eq_false_iff_not]; omega)) only [↓if_pos, ↓if_neg, if_true, if_false, wrap_up, Int.toNat_natCast, Nat.zero_add, Bool.not_true, Bool.false_eq_true]
      rfl
    · rw [e8_l0, full]
      simp (disch := first | omega | assumption | (rw [decide_eq_true_eq]; omega) | (rw [decide_eq_false_iff_not]; omega)) only [↓if_pos, ↓if_neg, if_true, if_false, wrap_up, Int.toNat_natCast, Nat.zero_add]
    · have c : ¬ ((g.length : Int) != g.length) = true := by simp
      rw [e8_j0, if_neg c]
      rfl
    · rw [e8_l4]
      simp (disch := first | omega | assumption | (rw [decide_eq_true_eq]; omega) | (rw [decide_eq_false_iff_not]; omega)) only [↓if_pos, ↓if_neg, if_true, if_false, wrap_up, Int.toNat_natCast, Nat.zero_add]
      rfl
    · rw [e8_l6]
      simp only [decide_eq_true_eq, decide_eq_false_iff_not]
      simp only [Int.toNat_natCast]
      simp (disch := first | omega | assumption | (rw [decide_eq_true_eq]; omega) | (rw [decide_eq_false_iff_not]; omega)) only [↓if_pos, ↓if_neg, if_true, if_false, wrap_up, Int.toNat_natCast, Nat.zero_add]
    · rw [e8_j5, wrap_up (by omega)]
      rfl
    · rw [e8_l4]
      simp (disch := first | omega | assumption | (rw [decide_eq_true_eq]; omega) | (rw [decide_eq_false_iff_not]; omega)) only [↓if_pos, ↓if_neg, if_true, if_false, wrap_up, Int.toNat_natCast, Nat.zero_add]
    · rw [e8_j4, same3_self]
      simp (disch := first | omega | assumption | (rw [decide_eq_true_eq]; omega) | (rw [decide_eq_false_iff_not]; omega)) only [↓if_pos, ↓if_neg, if_true, if_false, wrap_up, Int.toNat_natCast, Nat.zero_add]
      rfl
  · have hb : lightB g = false := by rw [← Bool.not_eq_true, lightB_iff]; exact hl
    refine .step fun J => ?_
    rw [e8, hb]
    rfl
end Go.Proofs.Ytggibjbcbicpjaa.Ev
