/- plnlaw14.SccRings: it answers true. -/
import Derived.Test.YtggibjbcbicpjaaSccLb
namespace Go.Proofs.Ytggibjbcbicpjaa.Ev
open Go
set_option linter.unusedVariables false
set_option linter.unusedSimpArgs false
noncomputable def b9 : Code := bodyOf Try.f9
noncomputable def C9 : Cfg Ty := ⟨fun
  | 38 => some ([], S38)
  | 39 => some ([], S39)
  | 44 => some ([], S44)
  | 47 => some ([], S47)
  | 40 => some ([], S40)
  | _ => none, fun
  | 5 => true
  | 43 => true
  | 48 => true
  | 49 => true
  | 50 => true
  | 84 => true
  | 85 => true
  | 100086 => true
  | _ => false, 136, 0⟩
def U9 : Cuts := ⟨fun
  | 0 => some [(0, none), (1, none), (5, some 30)]
  | 2 => some [(0, none), (1, none), (5, some 1030)]
  | 4 => some []
  | 5 => some [(0, none), (1, none), (5, some 30), (10, none), (11, none), (12, none)]
  | 6 => some []
  | _ => none, fun
  | 0 => some [(0, none), (1, none), (5, some 30), (6, none)]
  | 2 => some [(0, none), (1, none), (5, some 30), (7, none)]
  | 4 => some [(0, none), (1, none), (5, some 30), (10, none), (11, none), (12, none)]
  | 6 => some [(0, none), (1, none), (5, some 30), (10, none), (12, none), (13, none)]
  | _ => none, fun _ => none⟩
/-- join 0: live: 0, 1, 5 -/
noncomputable def k9_j0 : List Item := [.code (sndC (sndC (sndC (sndC (sndC b9)))))]
/-- loop 0: live: 0, 1, 5, 6 -/
noncomputable def k9_l0 : List Item := [.code (inC (inC (sndC (fstC (sndC (sndC (sndC (sndC b9)))))))), .inLoop (inC (inC (sndC (fstC (sndC (sndC (sndC (sndC b9)))))))), .inBlock 0, .code (sndC (sndC (sndC (sndC (sndC b9)))))]
/-- join 2: live: 0, 1, 5 -/
noncomputable def k9_j2 : List Item := [.code (sndC (sndC (sndC (sndC (sndC (sndC b9))))))]
/-- loop 2: live: 0, 1, 5, 7 -/
noncomputable def k9_l2 : List Item := [.code (inC (inC (sndC (fstC (sndC (sndC (sndC (sndC (sndC b9))))))))), .inLoop (inC (inC (sndC (fstC (sndC (sndC (sndC (sndC (sndC b9))))))))), .inBlock 2, .code (sndC (sndC (sndC (sndC (sndC (sndC b9))))))]
/-- join 4: live:  -/
noncomputable def k9_j4 : List Item := [.code (sndC (sndC (sndC (sndC (sndC (sndC (sndC (sndC (sndC b9)))))))))]
/-- loop 4: live: 0, 1, 5, 10, 11, 12 -/
noncomputable def k9_l4 : List Item := [.code (inC (inC (sndC (fstC (sndC (sndC (sndC (sndC (sndC (sndC (sndC (sndC b9)))))))))))), .inLoop (inC (inC (sndC (fstC (sndC (sndC (sndC (sndC (sndC (sndC (sndC (sndC b9)))))))))))), .inBlock 4, .code (sndC (sndC (sndC (sndC (sndC (sndC (sndC (sndC (sndC b9)))))))))]
/-- join 5: live: 0, 1, 5, 10, 11, 12 -/
noncomputable def k9_j5 : List Item := [.code (sndC (sndC (inC (inC (sndC (fstC (sndC (sndC (sndC (sndC (sndC (sndC (sndC (sndC b9)))))))))))))), .inLoop (inC (inC (sndC (fstC (sndC (sndC (sndC (sndC (sndC (sndC (sndC (sndC b9)))))))))))), .inBlock 4, .code (sndC (sndC (sndC (sndC (sndC (sndC (sndC (sndC (sndC b9)))))))))]
/-- join 6: live:  -/
noncomputable def k9_j6 : List Item := [.code (sndC (sndC (inC (fstC (sndC (inC (inC (sndC (fstC (sndC (sndC (sndC (sndC (sndC (sndC (sndC (sndC b9))))))))))))))))), .inBlock 5, .code (sndC (sndC (inC (inC (sndC (fstC (sndC (sndC (sndC (sndC (sndC (sndC (sndC (sndC b9)))))))))))))), .inLoop (inC (inC (sndC (fstC (sndC (sndC (sndC (sndC (sndC (sndC (sndC (sndC b9)))))))))))), .inBlock 4, .code (sndC (sndC (sndC (sndC (sndC (sndC (sndC (sndC (sndC b9)))))))))]
/-- loop 6: live: 0, 1, 5, 10, 12, 13 -/
noncomputable def k9_l6 : List Item := [.code (inC (inC (sndC (fstC (sndC (inC (fstC (sndC (inC (inC (sndC (fstC (sndC (sndC (sndC (sndC (sndC (sndC (sndC (sndC b9)))))))))))))))))))), .inLoop (inC (inC (sndC (fstC (sndC (inC (fstC (sndC (inC (inC (sndC (fstC (sndC (sndC (sndC (sndC (sndC (sndC (sndC (sndC b9)))))))))))))))))))), .inBlock 6, .code (sndC (sndC (inC (fstC (sndC (inC (inC (sndC (fstC (sndC (sndC (sndC (sndC (sndC (sndC (sndC (sndC b9))))))))))))))))), .inBlock 5, .code (sndC (sndC (inC (inC (sndC (fstC (sndC (sndC (sndC (sndC (sndC (sndC (sndC (sndC b9)))))))))))))), .inLoop (inC (inC (sndC (fstC (sndC (sndC (sndC (sndC (sndC (sndC (sndC (sndC b9)))))))))))), .inBlock 4, .code (sndC (sndC (sndC (sndC (sndC (sndC (sndC (sndC (sndC b9)))))))))]
def a9 (g : List (List Int)) (r : List Int) : List (AV Ty) := [.sl false (30 : Nat) g, .sl false (3 : Nat) r]
noncomputable def R9 (g : List (List Int)) (r : List Int) : St Ty → EvR := resT tb C9 Try.f9.results.toList .keep (a9 g r)
def s9_l0 (g : List (List Int)) (r : List Int) (v6 : Int) (h0 : List (List Int)) : St Ty := St.mk [(0, .sl false (30) g), (1, .sl false (3) r), (5, .ref (0) [] none false), (6, .v (.int .i64 v6))] [some (Root.mk (30) true h0)]
def s9_j0 (g : List (List Int)) (r : List Int) (h0 : List (List Int)) : St Ty := St.mk [(0, .sl false (30) g), (1, .sl false (3) r), (5, .ref (0) [] none false)] [some (Root.mk (30) true h0)]
def s9_l2 (g : List (List Int)) (r : List Int) (v7 : Int) (h0 : List (List Int)) : St Ty := St.mk [(0, .sl false (30) g), (1, .sl false (3) r), (5, .ref (0) [] none false), (7, .v (.int .i64 v7))] [some (Root.mk (30) true h0)]
def s9_j2 (g : List (List Int)) (r : List Int) (v5 : List (List Int)) : St Ty := St.mk [(0, .sl false (30) g), (1, .sl false (3) r), (5, .sl false (30) v5)] []
def s9_l4 (g : List (List Int)) (r : List Int) (v5 : List (List Int)) (v10 : List (List Int)) (v11 : Int) (v12 : Int) : St Ty := St.mk [(0, .sl false (30) g), (1, .sl false (3) r), (5, .sl false (30) v5), (10, .sl false (30) v10), (11, .v (.int .i64 v11)), (12, .v (.int .i64 v12))] []
def s9_j5 (g : List (List Int)) (r : List Int) (v5 : List (List Int)) (v10 : List (List Int)) (v11 : Int) (v12 : Int) : St Ty := St.mk [(0, .sl false (30) g), (1, .sl false (3) r), (5, .sl false (30) v5), (10, .sl false (30) v10), (11, .v (.int .i64 v11)), (12, .v (.int .i64 v12))] []
def s9_l6 (g : List (List Int)) (r : List Int) (v5 : List (List Int)) (v10 : List (List Int)) (v12 : Int) (v13 : Int) : St Ty := St.mk [(0, .sl false (30) g), (1, .sl false (3) r), (5, .sl false (30) v5), (10, .sl false (30) v10), (12, .v (.int .i64 v12)), (13, .v (.int .i64 v13))] []
def s9_j4 (g : List (List Int)) (r : List Int)  : St Ty := St.mk [] []
def s9_j6 (g : List (List Int)) (r : List Int)  : St Ty := St.mk [] []
theorem e9 (J : List Item → St Ty → EvR) (g : List (List Int)) (r : List Int) : run tb C9 U9 J (R9 g r) 4096 [.code b9] ⟨slotsA (a9 g r) 0 0, heapA (a9 g r)⟩ =
    if (!lightB g) = false then
     if ((↑g.length : Int) == (0 : Int)) = false then
      if ((↑r.length : Int) == (0 : Int)) = false then
       if decide ((↑r.length : Int) > (12 : Int)) = true then
        some (.v (.bool true), [.dead, .dead])
       else
        J k9_l0 (s9_l0 g r (0 : Int) ([]))
      else
       some (.v (.bool true), [.dead, .dead])
     else
      some (.v (.bool true), [.dead, .dead])
    else
     some (.v (.bool true), [.dead, .dead]) := by kernel_rfl
theorem e9_l0 (J : List Item → St Ty → EvR) (g : List (List Int)) (r : List Int) (v6 : Int) (h0 : List (List Int)) : run tb C9 U9 J (R9 g r) 4096 k9_l0 (s9_l0 g r v6 h0) =
    if decide (v6 < (↑g.length : Int)) = true then
     if (0 : Int) ≤ v6 then
      if v6 < (↑g.length : Int) then
       if ([] : List Int).length + List.length (g.getD v6.toNat []) + (1 : Nat) ≤ (549755813888 : Nat) ∧ (([] : List Int).length + List.length (g.getD v6.toNat []) + (1 : Nat)) * (8 : Nat) ≤ (549755813888 : Nat) then
        if h0.length + [[] ++ g.getD v6.toNat []].length + (1 : Nat) ≤ (549755813888 : Nat) ∧ (h0.length + [[] ++ g.getD v6.toNat []].length + (1 : Nat)) * (24 : Nat) ≤ (549755813888 : Nat) then
         J k9_l0 (s9_l0 g r (IntKind.i64.wrap (v6 + (1 : Int))) (h0 ++ [[] ++ g.getD v6.toNat []]))
        else
         none
       else
        none
      else
       none
     else
      none
    else
     J k9_j0 (s9_j0 g r (h0)) := by kernel_rfl
theorem e9_j0 (J : List Item → St Ty → EvR) (g : List (List Int)) (r : List Int) (h0 : List (List Int)) : run tb C9 U9 J (R9 g r) 4096 k9_j0 (s9_j0 g r h0) =
    J k9_l2 (s9_l2 g r (0 : Int) (h0)) := by kernel_rfl
theorem e9_l2 (J : List Item → St Ty → EvR) (g : List (List Int)) (r : List Int) (v7 : Int) (h0 : List (List Int)) : run tb C9 U9 J (R9 g r) 4096 k9_l2 (s9_l2 g r v7 h0) =
    if decide (v7 < (↑r.length : Int)) = true then
     if (0 : Int) ≤ v7 then
      if v7 < (↑r.length : Int) then
       if (↑g.length : Int) = (0 : Int) then
        none
       else
        if (↑r.length : Int) = (0 : Int) then
         none
        else
         if (0 : Int) ≤ (IntKind.i64.wrap (v7 + (1 : Int))).tmod (↑r.length : Int) then
          if (IntKind.i64.wrap (v7 + (1 : Int))).tmod (↑r.length : Int) < (↑r.length : Int) then
           if (↑g.length : Int) = (0 : Int) then
            none
           else
            if (0 : Int) ≤ (bitsI BinOp.and IntKind.i64 (r.getD v7.toNat (0 : Int)) (65535 : Int)).tmod (↑g.length : Int) then
             if (bitsI BinOp.and IntKind.i64 (r.getD v7.toNat (0 : Int)) (65535 : Int)).tmod (↑g.length : Int) < (↑h0.length : Int) then
              if List.length (h0.getD ((0 : Nat) + ((bitsI BinOp.and IntKind.i64 (r.getD v7.toNat (0 : Int)) (65535 : Int)).tmod (↑g.length : Int)).toNat) []) + [(bitsI BinOp.and IntKind.i64 (r.getD ((IntKind.i64.wrap (v7 + (1 : Int))).tmod (↑r.length : Int)).toNat (0 : Int)) (65535 : Int)).tmod (↑g.length : Int)].length + (1 : Nat) ≤ (549755813888 : Nat) ∧ (List.length (h0.getD ((0 : Nat) + ((bitsI BinOp.and IntKind.i64 (r.getD v7.toNat (0 : Int)) (65535 : Int)).tmod (↑g.length : Int)).toNat) []) + [(bitsI BinOp.and IntKind.i64 (r.getD ((IntKind.i64.wrap (v7 + (1 : Int))).tmod (↑r.length : Int)).toNat (0 : Int)) (65535 : Int)).tmod (↑g.length : Int)].length + (1 : Nat)) * (8 : Nat) ≤ (549755813888 : Nat) then
               if (0 : Int) ≤ (bitsI BinOp.and IntKind.i64 (r.getD v7.toNat (0 : Int)) (65535 : Int)).tmod (↑g.length : Int) then
                if (bitsI BinOp.and IntKind.i64 (r.getD v7.toNat (0 : Int)) (65535 : Int)).tmod (↑g.length : Int) < (↑h0.length : Int) then
                 if [] ++ [((0 : Nat) + ((bitsI BinOp.and IntKind.i64 (r.getD v7.toNat (0 : Int)) (65535 : Int)).tmod (↑g.length : Int)).toNat, (0 : Nat))] = [((0 : Nat) + ((bitsI BinOp.and IntKind.i64 (r.getD v7.toNat (0 : Int)) (65535 : Int)).tmod (↑g.length : Int)).toNat, (0 : Nat))] then
                  J k9_l2 (s9_l2 g r (IntKind.i64.wrap (v7 + (1 : Int))) (h0.set ((0 : Nat) + ((bitsI BinOp.and IntKind.i64 (r.getD v7.toNat (0 : Int)) (65535 : Int)).tmod (↑g.length : Int)).toNat) (h0.getD ((0 : Nat) + ((bitsI BinOp.and IntKind.i64 (r.getD v7.toNat (0 : Int)) (65535 : Int)).tmod (↑g.length : Int)).toNat) [] ++ [(bitsI BinOp.and IntKind.i64 (r.getD ((IntKind.i64.wrap (v7 + (1 : Int))).tmod (↑r.length : Int)).toNat (0 : Int)) (65535 : Int)).tmod (↑g.length : Int)])))
                 else
                  none
                else
                 none
               else
                none
              else
               none
             else
              none
            else
             none
          else
           none
         else
          none
      else
       none
     else
      none
    else
     J k9_j2 (s9_j2 g r (h0)) := by kernel_rfl
theorem e9_j2 (J : List Item → St Ty → EvR) (g : List (List Int)) (r : List Int) (v5 : List (List Int)) : run tb C9 U9 J (R9 g r) 4096 k9_j2 (s9_j2 g r v5) =
    if smallRows v5 then
     if (0 : Int) < (↑r.length : Int) then
      if (↑g.length : Int) = (0 : Int) then
       none
      else
       J k9_l4 (s9_l4 g r (v5) (setsI v5) ((bitsI BinOp.and IntKind.i64 (r.getD (Int.toNat (0 : Int)) (0 : Int)) (65535 : Int)).tmod (↑g.length : Int)) (0 : Int))
     else
      none
    else
     none := by kernel_rfl
theorem e9_l4 (J : List Item → St Ty → EvR) (g : List (List Int)) (r : List Int) (v5 : List (List Int)) (v10 : List (List Int)) (v11 : Int) (v12 : Int) : run tb C9 U9 J (R9 g r) 4096 k9_l4 (s9_l4 g r v5 v10 v11 v12) =
    if decide (v12 < (↑v10.length : Int)) = true then
     if (0 : Int) ≤ v12 then
      if v12 < (↑v10.length : Int) then
       if List.length (v10.getD v12.toNat []) ≤ (4611686018427387904 : Nat) then
        if (!inB (v10.getD v12.toNat []) v11) = true then
         J k9_j5 (s9_j5 g r (v5) (v10) (v11) (v12))
        else
         J k9_l6 (s9_l6 g r (v5) (v10) (v12) (0 : Int))
       else
        none
      else
       none
     else
      none
    else
     J k9_j4 (s9_j4 g r) := by kernel_rfl
theorem e9_j5 (J : List Item → St Ty → EvR) (g : List (List Int)) (r : List Int) (v5 : List (List Int)) (v10 : List (List Int)) (v11 : Int) (v12 : Int) : run tb C9 U9 J (R9 g r) 4096 k9_j5 (s9_j5 g r v5 v10 v11 v12) =
    J k9_l4 (s9_l4 g r (v5) (v10) (v11) (IntKind.i64.wrap (v12 + (1 : Int)))) := by kernel_rfl
theorem e9_l6 (J : List Item → St Ty → EvR) (g : List (List Int)) (r : List Int) (v5 : List (List Int)) (v10 : List (List Int)) (v12 : Int) (v13 : Int) : run tb C9 U9 J (R9 g r) 4096 k9_l6 (s9_l6 g r v5 v10 v12 v13) =
    if decide (v13 < (↑r.length : Int)) = true then
     if (0 : Int) ≤ v13 then
      if v13 < (↑r.length : Int) then
       if (↑g.length : Int) = (0 : Int) then
        none
       else
        if (0 : Int) ≤ v12 then
         if v12 < (↑v10.length : Int) then
          if List.length (v10.getD v12.toNat []) ≤ (4611686018427387904 : Nat) then
           if (!inB (v10.getD v12.toNat []) ((bitsI BinOp.and IntKind.i64 (r.getD v13.toNat (0 : Int)) (65535 : Int)).tmod (↑g.length : Int))) = false then
            if smallRows v5 then
             if (!recB v5 ((bitsI BinOp.and IntKind.i64 (r.getD v13.toNat (0 : Int)) (65535 : Int)).tmod (↑g.length : Int))) = true then
              some (.v (.bool false), [.dead, .dead])
             else
              J k9_l6 (s9_l6 g r (v5) (v10) (v12) (IntKind.i64.wrap (v13 + (1 : Int))))
            else
             none
           else
            some (.v (.bool false), [.dead, .dead])
          else
           none
         else
          none
        else
         none
      else
       none
     else
      none
    else
     J k9_j6 (s9_j6 g r) := by kernel_rfl
theorem e9_j4 (J : List Item → St Ty → EvR) (g : List (List Int)) (r : List Int)  : run tb C9 U9 J (R9 g r) 4096 k9_j4 (s9_j4 g r) =
    some (.v (.bool false), [.dead, .dead]) := by kernel_rfl
theorem e9_j6 (J : List Item → St Ty → EvR) (g : List (List Int)) (r : List Int)  : run tb C9 U9 J (R9 g r) 4096 k9_j6 (s9_j6 g r) =
    some (.v (.bool true), [.dead, .dead]) := by kernel_rfl

theorem in9 : Entered 9 := ⟨Try.f9, b9, by kernel_rfl, by kernel_rfl, by kernel_rfl⟩
theorem fn9 (g : List (List Int)) (r : List Int) {res : AV Ty} {outs : List (AV Ty)} (h : Ends C9 U9 (R9 g r) [.code b9] ⟨slotsA (a9 g r) 0 0, heapA (a9 g r)⟩ (some (res, outs))) : CallOk tb Try.prog 9 (a9 g r) res outs := by
  obtain ⟨n0, hn⟩ := h
  exact fn_ok (C := C9) (U := U9) (n := 0 + n0) (q := .keep) tbOk good (fun f mu S h => by
    unfold C9 at h
    simp only at h
    split at h
    · cases h; exact ⟨in38, S38_ok⟩
    · cases h; exact ⟨in39, S39_ok⟩
    · cases h; exact ⟨in44, S44_ok⟩
    · cases h; exact ⟨in47, S47_ok⟩
    · cases h; exact ⟨in40, S40_ok⟩
    · cases h) mixed (fn := Try.f9) (body := b9) (by kernel_rfl) (by kernel_rfl) rfl rfl (by show 2 ≤ 136; omega) (hn 0)
/-- The ring's node number i. -/
def rr (g : List (List Int)) (r : List Int) (i : Nat) : Nat := nodeOf g (r.getD i 0)
/-- The graph with k ways of the ring laid. -/
def ringH (g : List (List Int)) (r : List Int) : Nat → List (List Int)
  | 0 => g
  | k + 1 => (ringH g r k).set (rr g r k) ((ringH g r k).getD (rr g r k) [] ++ [(rr g r ((k + 1) % r.length) : Int)])
section
variable {g : List (List Int)} {r : List Int} {i k : Nat}
theorem rr_lt (hn : 0 < g.length) (i : Nat) : rr g r i < g.length := (node_eq hn _).2
theorem ringH_len : ∀ k, (ringH g r k).length = g.length
  | 0 => rfl
  | k + 1 => by unfold ringH; rw [List.length_set]; exact ringH_len k
theorem ringH_row (hg : light g) (hn : 0 < g.length) : ∀ (k a : Nat), ((ringH g r k).getD a []).length ≤ 30 + k
  | 0, a => by
    show (g.getD a []).length ≤ 30
    by_cases h : a < g.length
    · exact hg.2 _ (getD_in h)
    · rw [List.getD_eq_getElem?_getD, List.getElem?_eq_none (by omega)]; simp
  | k + 1, a => by
    have h1 := ringH_row hg hn k a
    have h2 := ringH_row hg hn k (rr g r k)
    unfold ringH
    rw [getD_set' (by rw [ringH_len]; exact rr_lt hn k)]
    split
    · rw [List.length_append, List.length_cons, List.length_nil]; omega
    · omega
theorem ringH_keep (hn : 0 < g.length) {a : Nat} {x : Int} (h : x ∈ (ringH g r k).getD a []) : ∀ m, x ∈ (ringH g r (k + m)).getD a []
  | 0 => h
  | m + 1 => by
    have := ringH_keep hn h m
    show x ∈ ((ringH g r (k + m)).set (rr g r (k + m)) ((ringH g r (k + m)).getD (rr g r (k + m)) [] ++ [(rr g r ((k + m + 1) % r.length) : Int)])).getD a []
    rw [getD_set' (by rw [ringH_len]; exact rr_lt hn _)]
    split
    · rename_i e; subst e; exact List.mem_append_left _ this
    · exact this
theorem ringH_ed (hn : 0 < g.length) (hi : i < r.length) : ed (ringH g r r.length) (rr g r i) (rr g r ((i + 1) % r.length)) := by
  refine ⟨by rw [ringH_len]; exact rr_lt hn _, by rw [ringH_len]; exact rr_lt hn _, ?_⟩
  have h : (rr g r ((i + 1) % r.length) : Int) ∈ (ringH g r (i + 1)).getD (rr g r i) [] := by
    unfold ringH
    rw [getD_set' (by rw [ringH_len]; exact rr_lt hn _), if_pos rfl]
    simp
  have := ringH_keep hn h (r.length - (i + 1))
  rwa [show i + 1 + (r.length - (i + 1)) = r.length by omega] at this
theorem ringH_small (hg : light g) (hn : 0 < g.length) (hk : k ≤ 12) : smallRows (ringH g r k) := by
  refine ⟨by rw [ringH_len]; have := hg.1; omega, fun x hx => ?_⟩
  obtain ⟨j, _, e⟩ := mem_getD [] hx
  have := ringH_row (r := r) hg hn k j
  rw [e] at this
  omega
theorem rings_lay (hl : light g) : Goes C9 U9 (R9 g r) k9_l0 (s9_l0 g r (0 : Nat) (g.take 0)) k9_l2 (s9_l2 g r (0 : Nat) (ringH g r 0)) := by
  have g1 := hl.1
  refine Goes.trans (Goes.upto (fun i => s9_l0 g r i (g.take i)) g.length (fun i hi => .step fun J => ?_) _ (Nat.le_refl _)) (Goes.trans (.step (k' := k9_j0) (s' := s9_j0 g r g) fun J => ?_) (.step fun J => ?_))
  · have e : g.take (i + 1) = g.take i ++ [g.getD i []] := by
      rw [List.take_add_one, List.getD_eq_getElem?_getD, List.getElem?_eq_getElem hi]
      rfl
    have gi := hl.2 _ (getD_in (d := []) hi)
    have lt : (g.take i).length ≤ 24 := by rw [List.length_take]; omega
    have w1 : IntKind.i64.wrap ((i : Int) + 1) = ((i + 1 : Nat) : Int) := by rw [wrap_up (by omega)]; rfl
    rw [e9_l0, Int.toNat_natCast, w1, e]
    simp (disch := first | omega | assumption | (rw [decide_eq_true_eq]; omega) | (rw [decide_eq_false_iff_not]; omega)) only [↓if_pos, ↓if_neg, if_true, if_false, wrap_up, Int.toNat_natCast, Nat.zero_add, List.nil_append, List.length_cons, List.length_nil]
  · rw [e9_l0, List.take_length]
    simp (disch := first | omega | assumption | (rw [decide_eq_true_eq]; omega) | (rw [decide_eq_false_iff_not]; omega)) only [↓if_pos, ↓if_neg, if_true, if_false, wrap_up, Int.toNat_natCast, Nat.zero_add]
  · rw [e9_j0]
    rfl
theorem rings_step (hl : light g) (hn : 0 < g.length) (h12 : r.length ≤ 12) (hk : k < r.length) : Goes C9 U9 (R9 g r) k9_l2 (s9_l2 g r k (ringH g r k)) k9_l2 (s9_l2 g r (k + 1 : Nat) (ringH g r (k + 1))) := .step fun J => by
  have g1 := hl.1
  have h0 : 0 < r.length := by omega
  have ne : ∀ a, (bitsI BinOp.and IntKind.i64 a 65535).tmod (g.length : Int) = (nodeOf g a : Nat) := fun a => (node_eq hn a).1
  have w1 : IntKind.i64.wrap ((k : Int) + 1) = ((k + 1 : Nat) : Int) := by rw [wrap_up (by omega)]; rfl
  have m1 : ((k + 1 : Nat) : Int).tmod (r.length : Int) = (((k + 1) % r.length : Nat) : Int) := rfl
  have m2 : (k + 1) % r.length < r.length := Nat.mod_lt _ h0
  have lk := ringH_len (g := g) (r := r) k
  have rk := ringH_row (r := r) hl hn k (rr g r k)
  have rk2 := rr_lt (r := r) hn k
  have e1 : nodeOf g (r.getD k 0) = rr g r k := rfl
  have e2 : nodeOf g (r.getD ((k + 1) % r.length) 0) = rr g r ((k + 1) % r.length) := rfl
  rw [e9_l2, w1, m1, Int.toNat_natCast, Int.toNat_natCast, ne, ne, Int.toNat_natCast, e1, e2]
  have fin : ringH g r (k + 1) = (ringH g r k).set (rr g r k) ((ringH g r k).getD (rr g r k) [] ++ [(rr g r ((k + 1) % r.length) : Int)]) := rfl
  rw [fin]
  clear fin m1 e2
  generalize (k + 1) % r.length = k' at m2 ⊢
  generalize ringH g r k = H at lk rk ⊢
  simp (disch := first | omega | assumption | (rw [decide_eq_true_eq]; omega) | (rw [decide_eq_false_iff_not]; omega)) only [↓if_pos, ↓if_neg, if_true, if_false, wrap_up, Int.toNat_natCast, Nat.zero_add, List.nil_append, List.length_cons, List.length_nil]
theorem rings_out (hl : light g) (hn : 0 < g.length) (h0 : 0 < r.length) (h12 : r.length ≤ 12) {H : List (List Int)} (hH : H = ringH g r r.length) : Ends C9 U9 (R9 g r) k9_l2 (s9_l2 g r r.length H) (some (yes true, [.dead, .dead])) := by
  have g1 := hl.1
  have hs : smallRows H := hH ▸ ringH_small (r := r) hl hn h12
  have hlen : H.length = g.length := hH ▸ ringH_len (g := g) (r := r) r.length
  have rl : ∀ i, rr g r i < g.length := rr_lt hn
  have ne : ∀ a, (bitsI BinOp.and IntKind.i64 a 65535).tmod (g.length : Int) = (nodeOf g a : Nat) := fun a => (node_eq hn a).1
  have W := setsN_way H
  have mates : ∀ k, k < r.length → Mate H (rr g r 0) (rr g r k) ∧ Led (ed H) (rr g r k) (rr g r k) := fun k hk => ring_mate h0 (fun i hi => hH ▸ ringH_ed hn hi) hk
  clear hH
  obtain ⟨i0, hi0, hx⟩ := mem_flat.1 (setsN_full H (rr g r 0) (by rw [hlen]; exact rl 0))
  have l1 : (setsI H).length = (setsN H).length := intR_len _
  have row : ∀ i, (setsI H).getD i [] = intL ((setsN H).getD i []) := intR_get _
  have inR : ∀ i v, inB (intL ((setsN H).getD i [])) ((v : Nat) : Int) = true ↔ v ∈ (setsN H).getD i [] := fun i v => by
    unfold inB
    rw [decide_eq_true_eq]
    exact mem_intL
  have rowl : ∀ i, i < (setsN H).length → (intL ((setsN H).getD i [])).length ≤ 24 := fun i hi => by
    rw [intL_len]
    have := W.row _ (getD_in (d := []) hi)
    omega
  have cnt : (setsN H).length ≤ 24 := by
    have := W.count
    have := W.len
    omega
  refine Goes.ends (.step (k' := k9_j2) (s' := s9_j2 g r H) fun J => ?_) (Goes.ends (.step (k' := k9_l4) (s' := s9_l4 g r H (setsI H) (rr g r 0) (0 : Nat)) fun J => ?_)
    (Goes.ends (Goes.upto (fun i => s9_l4 g r H (setsI H) (rr g r 0) i) i0 (fun i hi => Goes.trans (.step (k' := k9_j5) (s' := s9_j5 g r H (setsI H) (rr g r 0) i) fun J => ?_) (.step fun J => ?_)) _ (Nat.le_refl _)) (Goes.ends (.step (k' := k9_l6) (s' := s9_l6 g r H (setsI H) i0 (0 : Nat)) fun J => ?_) (Goes.ends (Goes.upto (fun k => s9_l6 g r H (setsI H) i0 k) r.length (fun k hk => .step fun J => ?_) _ (Nat.le_refl _)) (Goes.ends (.step (k' := k9_j6) (s' := s9_j6 g r) fun J => ?_) (.step fun J => e9_j6 J g r))))))
  · rw [e9_l2]
    simp (disch := first | omega | assumption | (rw [decide_eq_true_eq]; omega) | (rw [decide_eq_false_iff_not]; omega)) only [↓if_pos, ↓if_neg, if_true, if_false, wrap_up, Int.toNat_natCast, Nat.zero_add]
  · rw [e9_j2, ne]
    simp (disch := first | omega | assumption | (rw [decide_eq_true_eq]; omega) | (rw [decide_eq_false_iff_not]; omega)) only [↓if_pos, ↓if_neg, if_true, if_false, wrap_up, Int.toNat_natCast, Nat.zero_add]
    rfl
  · have c : inB (intL ((setsN H).getD i [])) ((rr g r 0 : Nat) : Int) = false := by
      rw [← Bool.not_eq_true, inR]
      exact fun h => by have := W.apart hi0 hx (show i < _ by omega) h; omega
    have := rowl i (by omega)
    rw [e9_l4, Int.toNat_natCast, row, c]
    simp (disch := first | omega | assumption | (rw [decide_eq_true_eq]; omega) | (rw [decide_eq_false_iff_not]; omega)) only [↓if_pos, ↓if_neg, if_true, if_false, wrap_up, Int.toNat_natCast, Nat.zero_add, Bool.not_false]
  · rw [e9_j5, wrap_up (by omega)]
    rfl
  · have c : inB (intL ((setsN H).getD i0 [])) ((rr g r 0 : Nat) : Int) = true := (inR _ _).2 hx
    have := rowl i0 hi0
    rw [e9_l4, Int.toNat_natCast, row, c]
    simp (disch := first | omega | assumption | (rw [decide_eq_true_eq]; omega) | (rw [decide_eq_false_iff_not]; omega)) only [↓if_pos, ↓if_neg, if_true, if_false, wrap_up, Int.toNat_natCast, Nat.zero_add, Bool.not_true, Bool.false_eq_true]
    rfl
  · have w1 : IntKind.i64.wrap ((k : Int) + 1) = ((k + 1 : Nat) : Int) := by rw [wrap_up (by omega)]; rfl
    obtain ⟨k1, k2⟩ := mates k hk
    have c : inB (intL ((setsN H).getD i0 [])) ((rr g r k : Nat) : Int) = true := by
      rw [inR, W.row_cls hi0 hx]
      exact mem_cls.2 ⟨by rw [hlen]; exact rl k, k1⟩
    have c2 : recB H ((rr g r k : Nat) : Int) = true := by
      have := rl k
      unfold recB
      rw [if_pos (by omega), Int.toNat_natCast, ledB_iff]
      exact k2
    have := rowl i0 hi0
    have e1 : nodeOf g (r.getD k 0) = rr g r k := rfl
    rw [e9_l6, Int.toNat_natCast, Int.toNat_natCast, ne, row, w1, e1, c, c2]
    simp (disch := first | omega | assumption | (rw [decide_eq_true_eq]; omega) | (rw [decide_eq_false_iff_not]; omega)) only [↓if_pos, ↓if_neg, if_true, if_false, wrap_up, Int.toNat_natCast, Nat.zero_add, Bool.not_true, Bool.false_eq_true]
  · rw [e9_l6]
    simp (disch := first | omega | assumption | (rw [decide_eq_true_eq]; omega) | (rw [decide_eq_false_iff_not]; omega)) only [↓if_pos, ↓if_neg, if_true, if_false, wrap_up, Int.toNat_natCast, Nat.zero_add]
theorem rings_walk (hl : light g) (hn : 0 < g.length) (h0 : 0 < r.length) (h12 : r.length ≤ 12) : Ends C9 U9 (R9 g r) k9_l0 (s9_l0 g r (0 : Nat) (g.take 0)) (some (yes true, [.dead, .dead])) :=
  Goes.ends (rings_lay hl) (Goes.ends (Goes.upto (fun k => s9_l2 g r k (ringH g r k)) r.length (fun k hk => rings_step hl hn h12 hk) _ (Nat.le_refl _)) (rings_out hl hn h0 h12 rfl))
end
theorem rings_ok (g : List (List Int)) (r : List Int) : CallOk tb Try.prog 9 (a9 g r) (yes true) [.dead, .dead] := by
  refine fn9 g r ?_
  by_cases hl : light g
  · have hb : lightB g = true := lightB_iff.2 hl
    have z : (!true) = false := rfl
    by_cases hn : 0 < g.length
    · have c : ((g.length : Int) == 0) = false := by rw [← Bool.not_eq_true, beq_iff_eq]; omega
      by_cases h0 : 0 < r.length
      · have c2 : ((r.length : Int) == 0) = false := by rw [← Bool.not_eq_true, beq_iff_eq]; omega
        by_cases h12 : r.length ≤ 12
        · refine Goes.ends (.step (k' := k9_l0) (s' := s9_l0 g r (0 : Nat) (g.take 0)) fun J => ?_) (rings_walk hl hn h0 h12)
          rw [e9, hb, if_pos z, c, if_pos rfl, c2, if_pos rfl, if_neg (by rw [decide_eq_true_eq]; omega)]
          rfl
        · refine .step fun J => ?_
          rw [e9, hb, if_pos z, c, if_pos rfl, c2, if_pos rfl, if_pos (by rw [decide_eq_true_eq]; omega)]
          rfl
      · have c2 : ((r.length : Int) == 0) = true := by rw [beq_iff_eq]; omega
        refine .step fun J => ?_
        rw [e9, hb, if_pos z, c, if_pos rfl, c2]
        rfl
    · have c : ((g.length : Int) == 0) = true := by rw [beq_iff_eq]; omega
      refine .step fun J => ?_
      rw [e9, hb, if_pos z, c]
      rfl
  · have hb : lightB g = false := by rw [← Bool.not_eq_true, lightB_iff]; exact hl
    refine .step fun J => ?_
    rw [e9, hb]
    rfl
end Go.Proofs.Ytggibjbcbicpjaa.Ev
