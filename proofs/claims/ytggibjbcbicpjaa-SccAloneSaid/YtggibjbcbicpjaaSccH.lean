/- plnref12.Sets: it answers the one list of sets. -/
import Derived.Test.YtggibjbcbicpjaaSccX
namespace Go.Proofs.Ytggibjbcbicpjaa.Ev
open Go
set_option linter.unusedVariables false
set_option linter.unusedSimpArgs false
noncomputable def b42 : Code := bodyOf Try.f42
noncomputable def C42 : Cfg Ty := ⟨fun
  | 83 => some ([], S83)
  | 46 => some ([], S46)
  | _ => none, fun
  | 17 => true
  | 12 => true
  | _ => false, 124, 0⟩
def U42 : Cuts := ⟨fun
  | 0 => some [(3, none), (4, none)]
  | 2 => some [(7, some 30)]
  | 3 => some [(3, none), (4, none), (6, none), (7, some 30)]
  | 4 => some [(3, none), (4, none), (6, none), (7, some 30)]
  | 5 => some [(3, none), (4, none), (6, none), (7, some 30), (8, none)]
  | 6 => some [(3, none), (4, none), (6, none), (7, some 30), (8, none), (9, none)]
  | 8 => some [(3, none), (4, none), (6, none), (7, some 30), (11, some 3)]
  | 10 => some [(3, none), (4, none), (6, none), (7, some 30), (11, some 3)]
  | _ => none, fun
  | 0 => some [(0, none), (3, none), (4, none), (5, none)]
  | 2 => some [(3, none), (4, none), (6, none), (7, some 30)]
  | 4 => some [(3, none), (4, none), (6, none), (7, some 30), (8, none)]
  | 6 => some [(3, none), (4, none), (6, none), (7, some 30), (8, none), (9, none), (10, none)]
  | 8 => some [(3, none), (4, none), (6, none), (7, some 30), (8, none), (11, some 3), (12, none)]
  | 10 => some [(3, none), (4, none), (6, none), (7, some 30), (11, some 3), (13, none)]
  | _ => none, fun _ => none⟩
/-- join 0: live: 3, 4 -/
noncomputable def k42_j0 : List Item := [.code (sndC (sndC (sndC (sndC b42))))]
/-- loop 0: live: 0, 3, 4, 5 -/
noncomputable def k42_l0 : List Item := [.code (inC (inC (sndC (fstC (sndC (sndC (sndC b42))))))), .inLoop (inC (inC (sndC (fstC (sndC (sndC (sndC b42))))))), .inBlock 0, .code (sndC (sndC (sndC (sndC b42))))]
/-- join 2: live: 7 -/
noncomputable def k42_j2 : List Item := [.code (sndC (sndC (sndC (sndC (sndC (sndC (sndC b42)))))))]
/-- loop 2: live: 3, 4, 6, 7 -/
noncomputable def k42_l2 : List Item := [.code (inC (inC (fstC (sndC (sndC (sndC (sndC (sndC (sndC b42))))))))), .inLoop (inC (inC (fstC (sndC (sndC (sndC (sndC (sndC (sndC b42))))))))), .inBlock 2, .code (sndC (sndC (sndC (sndC (sndC (sndC (sndC b42)))))))]
/-- join 3: live: 3, 4, 6, 7 -/
noncomputable def k42_j3 : List Item := [.inLoop (inC (inC (fstC (sndC (sndC (sndC (sndC (sndC (sndC b42))))))))), .inBlock 2, .code (sndC (sndC (sndC (sndC (sndC (sndC (sndC b42)))))))]
/-- join 4: live: 3, 4, 6, 7 -/
noncomputable def k42_j4 : List Item := [.inBlock 3, .inLoop (inC (inC (fstC (sndC (sndC (sndC (sndC (sndC (sndC b42))))))))), .inBlock 2, .code (sndC (sndC (sndC (sndC (sndC (sndC (sndC b42)))))))]
/-- loop 4: live: 3, 4, 6, 7, 8 -/
noncomputable def k42_l4 : List Item := [.code (inC (inC (sndC (inC (sndC (inC (inC (fstC (sndC (sndC (sndC (sndC (sndC (sndC b42)))))))))))))), .inLoop (inC (inC (sndC (inC (sndC (inC (inC (fstC (sndC (sndC (sndC (sndC (sndC (sndC b42)))))))))))))), .inBlock 4, .inBlock 3, .inLoop (inC (inC (fstC (sndC (sndC (sndC (sndC (sndC (sndC b42))))))))), .inBlock 2, .code (sndC (sndC (sndC (sndC (sndC (sndC (sndC b42)))))))]
/-- join 5: live: 3, 4, 6, 7, 8 -/
noncomputable def k42_j5 : List Item := [.code (sndC (sndC (inC (inC (sndC (inC (sndC (inC (inC (fstC (sndC (sndC (sndC (sndC (sndC (sndC b42)))))))))))))))), .inLoop (inC (inC (sndC (inC (sndC (inC (inC (fstC (sndC (sndC (sndC (sndC (sndC (sndC b42)))))))))))))), .inBlock 4, .inBlock 3, .inLoop (inC (inC (fstC (sndC (sndC (sndC (sndC (sndC (sndC b42))))))))), .inBlock 2, .code (sndC (sndC (sndC (sndC (sndC (sndC (sndC b42)))))))]
/-- join 6: live: 3, 4, 6, 7, 8, 9 -/
noncomputable def k42_j6 : List Item := [.code (sndC (sndC (sndC (inC (fstC (sndC (inC (inC (sndC (inC (sndC (inC (inC (fstC (sndC (sndC (sndC (sndC (sndC (sndC b42)))))))))))))))))))), .inBlock 5, .code (sndC (sndC (inC (inC (sndC (inC (sndC (inC (inC (fstC (sndC (sndC (sndC (sndC (sndC (sndC b42)))))))))))))))), .inLoop (inC (inC (sndC (inC (sndC (inC (inC (fstC (sndC (sndC (sndC (sndC (sndC (sndC b42)))))))))))))), .inBlock 4, .inBlock 3, .inLoop (inC (inC (fstC (sndC (sndC (sndC (sndC (sndC (sndC b42))))))))), .inBlock 2, .code (sndC (sndC (sndC (sndC (sndC (sndC (sndC b42)))))))]
/-- loop 6: live: 3, 4, 6, 7, 8, 9, 10 -/
noncomputable def k42_l6 : List Item := [.code (inC (inC (sndC (fstC (sndC (sndC (inC (fstC (sndC (inC (inC (sndC (inC (sndC (inC (inC (fstC (sndC (sndC (sndC (sndC (sndC (sndC b42))))))))))))))))))))))), .inLoop (inC (inC (sndC (fstC (sndC (sndC (inC (fstC (sndC (inC (inC (sndC (inC (sndC (inC (inC (fstC (sndC (sndC (sndC (sndC (sndC (sndC b42))))))))))))))))))))))), .inBlock 6, .code (sndC (sndC (sndC (inC (fstC (sndC (inC (inC (sndC (inC (sndC (inC (inC (fstC (sndC (sndC (sndC (sndC (sndC (sndC b42)))))))))))))))))))), .inBlock 5, .code (sndC (sndC (inC (inC (sndC (inC (sndC (inC (inC (fstC (sndC (sndC (sndC (sndC (sndC (sndC b42)))))))))))))))), .inLoop (inC (inC (sndC (inC (sndC (inC (inC (fstC (sndC (sndC (sndC (sndC (sndC (sndC b42)))))))))))))), .inBlock 4, .inBlock 3, .inLoop (inC (inC (fstC (sndC (sndC (sndC (sndC (sndC (sndC b42))))))))), .inBlock 2, .code (sndC (sndC (sndC (sndC (sndC (sndC (sndC b42)))))))]
/-- join 8: live: 3, 4, 6, 7, 11 -/
noncomputable def k42_j8 : List Item := [.code (sndC (sndC (sndC (sndC (sndC (sndC (inC (fstC (sndC (inC (inC (sndC (inC (sndC (inC (inC (fstC (sndC (sndC (sndC (sndC (sndC (sndC b42))))))))))))))))))))))), .inBlock 5, .code (sndC (sndC (inC (inC (sndC (inC (sndC (inC (inC (fstC (sndC (sndC (sndC (sndC (sndC (sndC b42)))))))))))))))), .inLoop (inC (inC (sndC (inC (sndC (inC (inC (fstC (sndC (sndC (sndC (sndC (sndC (sndC b42)))))))))))))), .inBlock 4, .inBlock 3, .inLoop (inC (inC (fstC (sndC (sndC (sndC (sndC (sndC (sndC b42))))))))), .inBlock 2, .code (sndC (sndC (sndC (sndC (sndC (sndC (sndC b42)))))))]
/-- loop 8: live: 3, 4, 6, 7, 8, 11, 12 -/
noncomputable def k42_l8 : List Item := [.code (inC (inC (sndC (fstC (sndC (sndC (sndC (sndC (sndC (inC (fstC (sndC (inC (inC (sndC (inC (sndC (inC (inC (fstC (sndC (sndC (sndC (sndC (sndC (sndC b42)))))))))))))))))))))))))), .inLoop (inC (inC (sndC (fstC (sndC (sndC (sndC (sndC (sndC (inC (fstC (sndC (inC (inC (sndC (inC (sndC (inC (inC (fstC (sndC (sndC (sndC (sndC (sndC (sndC b42)))))))))))))))))))))))))), .inBlock 8, .code (sndC (sndC (sndC (sndC (sndC (sndC (inC (fstC (sndC (inC (inC (sndC (inC (sndC (inC (inC (fstC (sndC (sndC (sndC (sndC (sndC (sndC b42))))))))))))))))))))))), .inBlock 5, .code (sndC (sndC (inC (inC (sndC (inC (sndC (inC (inC (fstC (sndC (sndC (sndC (sndC (sndC (sndC b42)))))))))))))))), .inLoop (inC (inC (sndC (inC (sndC (inC (inC (fstC (sndC (sndC (sndC (sndC (sndC (sndC b42)))))))))))))), .inBlock 4, .inBlock 3, .inLoop (inC (inC (fstC (sndC (sndC (sndC (sndC (sndC (sndC b42))))))))), .inBlock 2, .code (sndC (sndC (sndC (sndC (sndC (sndC (sndC b42)))))))]
/-- join 10: live: 3, 4, 6, 7, 11 -/
noncomputable def k42_j10 : List Item := [.code (sndC (sndC (sndC (sndC (sndC (sndC (sndC (inC (fstC (sndC (inC (inC (sndC (inC (sndC (inC (inC (fstC (sndC (sndC (sndC (sndC (sndC (sndC b42)))))))))))))))))))))))), .inBlock 5, .code (sndC (sndC (inC (inC (sndC (inC (sndC (inC (inC (fstC (sndC (sndC (sndC (sndC (sndC (sndC b42)))))))))))))))), .inLoop (inC (inC (sndC (inC (sndC (inC (inC (fstC (sndC (sndC (sndC (sndC (sndC (sndC b42)))))))))))))), .inBlock 4, .inBlock 3, .inLoop (inC (inC (fstC (sndC (sndC (sndC (sndC (sndC (sndC b42))))))))), .inBlock 2, .code (sndC (sndC (sndC (sndC (sndC (sndC (sndC b42)))))))]
/-- loop 10: live: 3, 4, 6, 7, 11, 13 -/
noncomputable def k42_l10 : List Item := [.code (inC (inC (sndC (fstC (sndC (sndC (sndC (sndC (sndC (sndC (inC (fstC (sndC (inC (inC (sndC (inC (sndC (inC (inC (fstC (sndC (sndC (sndC (sndC (sndC (sndC b42))))))))))))))))))))))))))), .inLoop (inC (inC (sndC (fstC (sndC (sndC (sndC (sndC (sndC (sndC (inC (fstC (sndC (inC (inC (sndC (inC (sndC (inC (inC (fstC (sndC (sndC (sndC (sndC (sndC (sndC b42))))))))))))))))))))))))))), .inBlock 10, .code (sndC (sndC (sndC (sndC (sndC (sndC (sndC (inC (fstC (sndC (inC (inC (sndC (inC (sndC (inC (inC (fstC (sndC (sndC (sndC (sndC (sndC (sndC b42)))))))))))))))))))))))), .inBlock 5, .code (sndC (sndC (inC (inC (sndC (inC (sndC (inC (inC (fstC (sndC (sndC (sndC (sndC (sndC (sndC b42)))))))))))))))), .inLoop (inC (inC (sndC (inC (sndC (inC (inC (fstC (sndC (sndC (sndC (sndC (sndC (sndC b42)))))))))))))), .inBlock 4, .inBlock 3, .inLoop (inC (inC (fstC (sndC (sndC (sndC (sndC (sndC (sndC b42))))))))), .inBlock 2, .code (sndC (sndC (sndC (sndC (sndC (sndC (sndC b42)))))))]
def a42 (g : List (List Int)) : List (AV Ty) := [.sl false (30 : Nat) g]
noncomputable def R42 (g : List (List Int)) : St Ty → EvR := resT tb C42 Try.f42.results.toList (.own 30) (a42 g)
def s42_l0 (g : List (List Int)) (v3 : Int) (v5 : Int) (h0 : List (List Bool)) : St Ty := St.mk [(0, .sl false (30) g), (3, .v (.int .i64 v3)), (4, .ref (0) [] none false), (5, .v (.int .i64 v5))] [some (Root.mk (71) true h0)]
def s42_j0 (g : List (List Int)) (v3 : Int) (h0 : List (List Bool)) : St Ty := St.mk [(3, .v (.int .i64 v3)), (4, .ref (0) [] none false)] [some (Root.mk (71) true h0)]
def s42_l2 (g : List (List Int)) (v3 : Int) (h0 : List (List Bool)) (h1 : List Bool) (h2 : List (List Int)) : St Ty := St.mk [(3, .v (.int .i64 v3)), (4, .ref (0) [] none false), (6, .ref (1) [] none false), (7, .ref (2) [] none false)] [some (Root.mk (71) true h0), some (Root.mk (4) false h1), some (Root.mk (30) false h2)]
def s42_l4 (g : List (List Int)) (v3 : Int) (v8 : Int) (h0 : List (List Bool)) (h1 : List Bool) (h2 : List (List Int)) : St Ty := St.mk [(3, .v (.int .i64 v3)), (4, .ref (0) [] none false), (6, .ref (1) [] none false), (7, .ref (2) [] none false), (8, .v (.int .i64 v8))] [some (Root.mk (71) true h0), some (Root.mk (4) false h1), some (Root.mk (30) false h2)]
def s42_j2 (g : List (List Int)) (h0 : List (List Int)) : St Ty := St.mk [(7, .ref (0) [] none false)] [some (Root.mk (30) false h0)]
def s42_j5 (g : List (List Int)) (v3 : Int) (v8 : Int) (h0 : List (List Bool)) (h1 : List Bool) (h2 : List (List Int)) : St Ty := St.mk [(3, .v (.int .i64 v3)), (4, .ref (0) [] none false), (6, .ref (1) [] none false), (7, .ref (2) [] none false), (8, .v (.int .i64 v8))] [some (Root.mk (71) true h0), some (Root.mk (4) false h1), some (Root.mk (30) false h2)]
def s42_l6 (g : List (List Int)) (v3 : Int) (v8 : Int) (v9 : Bool) (v10 : Int) (h0 : List (List Bool)) (h1 : List Bool) (h2 : List (List Int)) : St Ty := St.mk [(3, .v (.int .i64 v3)), (4, .ref (0) [] none false), (6, .ref (1) [] none false), (7, .ref (2) [] none false), (8, .v (.int .i64 v8)), (9, .v (.bool v9)), (10, .v (.int .i64 v10))] [some (Root.mk (71) true h0), some (Root.mk (4) false h1), some (Root.mk (30) false h2)]
def s42_j4 (g : List (List Int)) (v3 : Int) (h0 : List (List Bool)) (h1 : List Bool) (h2 : List (List Int)) : St Ty := St.mk [(3, .v (.int .i64 v3)), (4, .ref (0) [] none false), (6, .ref (1) [] none false), (7, .ref (2) [] none false)] [some (Root.mk (71) true h0), some (Root.mk (4) false h1), some (Root.mk (30) false h2)]
def s42_j6 (g : List (List Int)) (v3 : Int) (v8 : Int) (v9 : Bool) (h0 : List (List Bool)) (h1 : List Bool) (h2 : List (List Int)) : St Ty := St.mk [(3, .v (.int .i64 v3)), (4, .ref (0) [] none false), (6, .ref (1) [] none false), (7, .ref (2) [] none false), (8, .v (.int .i64 v8)), (9, .v (.bool v9))] [some (Root.mk (71) true h0), some (Root.mk (4) false h1), some (Root.mk (30) false h2)]
def s42_j3 (g : List (List Int)) (v3 : Int) (h0 : List (List Bool)) (h1 : List Bool) (h2 : List (List Int)) : St Ty := St.mk [(3, .v (.int .i64 v3)), (4, .ref (0) [] none false), (6, .ref (1) [] none false), (7, .ref (2) [] none false)] [some (Root.mk (71) true h0), some (Root.mk (4) false h1), some (Root.mk (30) false h2)]
def s42_l8 (g : List (List Int)) (v3 : Int) (v8 : Int) (v12 : Int) (h0 : List (List Bool)) (h1 : List Bool) (h2 : List (List Int)) (h3 : List Int) : St Ty := St.mk [(3, .v (.int .i64 v3)), (4, .ref (0) [] none false), (6, .ref (1) [] none false), (7, .ref (2) [] none false), (8, .v (.int .i64 v8)), (11, .ref (3) [] none false), (12, .v (.int .i64 v12))] [some (Root.mk (71) true h0), some (Root.mk (4) false h1), some (Root.mk (30) false h2), some (Root.mk (3) false h3)]
def s42_j8 (g : List (List Int)) (v3 : Int) (h0 : List (List Bool)) (h1 : List Bool) (h2 : List (List Int)) (h3 : List Int) : St Ty := St.mk [(3, .v (.int .i64 v3)), (4, .ref (0) [] none false), (6, .ref (1) [] none false), (7, .ref (2) [] none false), (11, .ref (3) [] none false)] [some (Root.mk (71) true h0), some (Root.mk (4) false h1), some (Root.mk (30) false h2), some (Root.mk (3) false h3)]
def s42_l10 (g : List (List Int)) (v3 : Int) (v13 : Int) (h0 : List (List Bool)) (h1 : List Bool) (h2 : List (List Int)) (h3 : List Int) : St Ty := St.mk [(3, .v (.int .i64 v3)), (4, .ref (0) [] none false), (6, .ref (1) [] none false), (7, .ref (2) [] none false), (11, .ref (3) [] none false), (13, .v (.int .i64 v13))] [some (Root.mk (71) true h0), some (Root.mk (4) false h1), some (Root.mk (30) false h2), some (Root.mk (3) false h3)]
def s42_j10 (g : List (List Int)) (v3 : Int) (h0 : List (List Bool)) (h1 : List Bool) (h2 : List (List Int)) (h3 : List Int) : St Ty := St.mk [(3, .v (.int .i64 v3)), (4, .ref (0) [] none false), (6, .ref (1) [] none false), (7, .ref (2) [] none false), (11, .ref (3) [] none false)] [some (Root.mk (71) true h0), some (Root.mk (4) false h1), some (Root.mk (30) false h2), some (Root.mk (3) false h3)]
theorem e42 (J : List Item → St Ty → EvR) (g : List (List Int)) : run tb C42 U42 J (R42 g) 4096 [.code b42] ⟨slotsA (a42 g) 0 0, heapA (a42 g)⟩ =
    if (0 : Int) ≤ (↑g.length : Int) ∧ (↑g.length : Int) ≤ (↑g.length : Int) ∧ (↑g.length : Int) ≤ (1099511627776 : Int) ∧ (↑g.length : Int) * (↑(24 : Nat) : Int) ≤ (1099511627776 : Int) then
     J k42_l0 (s42_l0 g ((↑g.length : Int)) (0 : Int) (List.replicate (↑g.length : Int).toNat []))
    else
     none := by kernel_rfl
theorem e42_l0 (J : List Item → St Ty → EvR) (g : List (List Int)) (v3 : Int) (v5 : Int) (h0 : List (List Bool)) : run tb C42 U42 J (R42 g) 4096 k42_l0 (s42_l0 g v3 v5 h0) =
    if decide (v5 < v3) = true then
     if smallRows g then
      if (0 : Int) ≤ v5 then
       if v5 < (↑h0.length : Int) then
        if (0 : Int) ≤ v5 then
         if v5 < (↑(h0.set ((0 : Nat) + v5.toNat) (leadL g v5)).length : Int) then
          if (0 : Int) ≤ v5 then
           if v5 < (↑(List.length ((h0.set ((0 : Nat) + v5.toNat) (leadL g v5)).getD ((0 : Nat) + v5.toNat) [])) : Int) then
            J k42_l0 (s42_l0 g (v3) (IntKind.i64.wrap (v5 + (1 : Int))) ((h0.set ((0 : Nat) + v5.toNat) (leadL g v5)).set ((0 : Nat) + v5.toNat) (List.set ((h0.set ((0 : Nat) + v5.toNat) (leadL g v5)).getD ((0 : Nat) + v5.toNat) []) ((0 : Nat) + v5.toNat) true)))
           else
            none
          else
           none
         else
          none
        else
         none
       else
        none
      else
       none
     else
      none
    else
     J k42_j0 (s42_j0 g (v3) (h0)) := by kernel_rfl
theorem e42_j0 (J : List Item → St Ty → EvR) (g : List (List Int)) (v3 : Int) (h0 : List (List Bool)) : run tb C42 U42 J (R42 g) 4096 k42_j0 (s42_j0 g v3 h0) =
    if (0 : Int) ≤ v3 ∧ v3 ≤ v3 ∧ v3 ≤ (1099511627776 : Int) ∧ v3 * (↑(1 : Nat) : Int) ≤ (1099511627776 : Int) then
     J k42_l2 (s42_l2 g (v3) (h0) (List.replicate v3.toNat false) ([]))
    else
     none := by kernel_rfl
theorem e42_l2 (J : List Item → St Ty → EvR) (g : List (List Int)) (v3 : Int) (h0 : List (List Bool)) (h1 : List Bool) (h2 : List (List Int)) : run tb C42 U42 J (R42 g) 4096 k42_l2 (s42_l2 g v3 h0 h1 h2) =
    if smallRows h2 then
     if decide ((↑h2.flatten.length : Int) < v3) = true then
      J k42_l4 (s42_l4 g (v3) (0 : Int) (h0) (h1) (h2))
     else
      J k42_j2 (s42_j2 g (h2))
    else
     none := by kernel_rfl
theorem e42_l4 (J : List Item → St Ty → EvR) (g : List (List Int)) (v3 : Int) (v8 : Int) (h0 : List (List Bool)) (h1 : List Bool) (h2 : List (List Int)) : run tb C42 U42 J (R42 g) 4096 k42_l4 (s42_l4 g v3 v8 h0 h1 h2) =
    if decide (v8 < v3) = true then
     if (0 : Int) ≤ v8 then
      if v8 < (↑h1.length : Int) then
       if h1.getD ((0 : Nat) + v8.toNat) false = true then
        J k42_j5 (s42_j5 g (v3) (v8) (h0) (h1) (h2))
       else
        J k42_l6 (s42_l6 g (v3) (v8) (true) (0 : Int) (h0) (h1) (h2))
      else
       none
     else
      none
    else
     J k42_j4 (s42_j4 g (v3) (h0) (h1) (h2)) := by kernel_rfl
theorem e42_j2 (J : List Item → St Ty → EvR) (g : List (List Int)) (h0 : List (List Int)) : run tb C42 U42 J (R42 g) 4096 k42_j2 (s42_j2 g h0) =
    some (.sl false (30) h0, [.dead]) := by kernel_rfl
theorem e42_j5 (J : List Item → St Ty → EvR) (g : List (List Int)) (v3 : Int) (v8 : Int) (h0 : List (List Bool)) (h1 : List Bool) (h2 : List (List Int)) : run tb C42 U42 J (R42 g) 4096 k42_j5 (s42_j5 g v3 v8 h0 h1 h2) =
    J k42_l4 (s42_l4 g (v3) (IntKind.i64.wrap (v8 + (1 : Int))) (h0) (h1) (h2)) := by kernel_rfl
theorem e42_l6 (J : List Item → St Ty → EvR) (g : List (List Int)) (v3 : Int) (v8 : Int) (v9 : Bool) (v10 : Int) (h0 : List (List Bool)) (h1 : List Bool) (h2 : List (List Int)) : run tb C42 U42 J (R42 g) 4096 k42_l6 (s42_l6 g v3 v8 v9 v10 h0 h1 h2) =
    if decide (v10 < v3) = true then
     if (0 : Int) ≤ v8 then
      if v8 < (↑h0.length : Int) then
       if (0 : Int) ≤ v10 then
        if v10 < (↑(List.length (h0.getD ((0 : Nat) + v8.toNat) [])) : Int) then
         if List.getD (h0.getD ((0 : Nat) + v8.toNat) []) ((0 : Nat) + v10.toNat) false = true then
          if (0 : Int) ≤ v10 then
           if v10 < (↑h0.length : Int) then
            if (0 : Int) ≤ v8 then
             if v8 < (↑(List.length (h0.getD ((0 : Nat) + v10.toNat) [])) : Int) then
              if (!List.getD (h0.getD ((0 : Nat) + v10.toNat) []) ((0 : Nat) + v8.toNat) false) = true then
               if (0 : Int) ≤ v10 then
                if v10 < (↑h1.length : Int) then
                 if (!h1.getD ((0 : Nat) + v10.toNat) false) = true then
                  J k42_l6 (s42_l6 g (v3) (v8) (false) (IntKind.i64.wrap (v10 + (1 : Int))) (h0) (h1) (h2))
                 else
                  J k42_l6 (s42_l6 g (v3) (v8) (v9) (IntKind.i64.wrap (v10 + (1 : Int))) (h0) (h1) (h2))
                else
                 none
               else
                none
              else
               J k42_l6 (s42_l6 g (v3) (v8) (v9) (IntKind.i64.wrap (v10 + (1 : Int))) (h0) (h1) (h2))
             else
              none
            else
             none
           else
            none
          else
           none
         else
          J k42_l6 (s42_l6 g (v3) (v8) (v9) (IntKind.i64.wrap (v10 + (1 : Int))) (h0) (h1) (h2))
        else
         none
       else
        none
      else
       none
     else
      none
    else
     J k42_j6 (s42_j6 g (v3) (v8) (v9) (h0) (h1) (h2)) := by kernel_rfl
theorem e42_j4 (J : List Item → St Ty → EvR) (g : List (List Int)) (v3 : Int) (h0 : List (List Bool)) (h1 : List Bool) (h2 : List (List Int)) : run tb C42 U42 J (R42 g) 4096 k42_j4 (s42_j4 g v3 h0 h1 h2) =
    J k42_j3 (s42_j3 g (v3) (h0) (h1) (h2)) := by kernel_rfl
theorem e42_j6 (J : List Item → St Ty → EvR) (g : List (List Int)) (v3 : Int) (v8 : Int) (v9 : Bool) (h0 : List (List Bool)) (h1 : List Bool) (h2 : List (List Int)) : run tb C42 U42 J (R42 g) 4096 k42_j6 (s42_j6 g v3 v8 v9 h0 h1 h2) =
    if (!v9) = true then
     J k42_j5 (s42_j5 g (v3) (v8) (h0) (h1) (h2))
    else
     J k42_l8 (s42_l8 g (v3) (v8) (0 : Int) (h0) (h1) (h2) ([])) := by kernel_rfl
theorem e42_j3 (J : List Item → St Ty → EvR) (g : List (List Int)) (v3 : Int) (h0 : List (List Bool)) (h1 : List Bool) (h2 : List (List Int)) : run tb C42 U42 J (R42 g) 4096 k42_j3 (s42_j3 g v3 h0 h1 h2) =
    J k42_l2 (s42_l2 g (v3) (h0) (h1) (h2)) := by kernel_rfl
theorem e42_l8 (J : List Item → St Ty → EvR) (g : List (List Int)) (v3 : Int) (v8 : Int) (v12 : Int) (h0 : List (List Bool)) (h1 : List Bool) (h2 : List (List Int)) (h3 : List Int) : run tb C42 U42 J (R42 g) 4096 k42_l8 (s42_l8 g v3 v8 v12 h0 h1 h2 h3) =
    if decide (v12 < v3) = true then
     if (0 : Int) ≤ v8 then
      if v8 < (↑h0.length : Int) then
       if (0 : Int) ≤ v12 then
        if v12 < (↑(List.length (h0.getD ((0 : Nat) + v8.toNat) [])) : Int) then
         if List.getD (h0.getD ((0 : Nat) + v8.toNat) []) ((0 : Nat) + v12.toNat) false = true then
          if (0 : Int) ≤ v12 then
           if v12 < (↑h0.length : Int) then
            if (0 : Int) ≤ v8 then
             if v8 < (↑(List.length (h0.getD ((0 : Nat) + v12.toNat) [])) : Int) then
              if List.getD (h0.getD ((0 : Nat) + v12.toNat) []) ((0 : Nat) + v8.toNat) false = true then
               if h3.length + [v12].length + (1 : Nat) ≤ (549755813888 : Nat) ∧ (h3.length + [v12].length + (1 : Nat)) * (8 : Nat) ≤ (549755813888 : Nat) then
                J k42_l8 (s42_l8 g (v3) (v8) (IntKind.i64.wrap (v12 + (1 : Int))) (h0) (h1) (h2) (h3 ++ [v12]))
               else
                none
              else
               J k42_l8 (s42_l8 g (v3) (v8) (IntKind.i64.wrap (v12 + (1 : Int))) (h0) (h1) (h2) (h3))
             else
              none
            else
             none
           else
            none
          else
           none
         else
          J k42_l8 (s42_l8 g (v3) (v8) (IntKind.i64.wrap (v12 + (1 : Int))) (h0) (h1) (h2) (h3))
        else
         none
       else
        none
      else
       none
     else
      none
    else
     J k42_j8 (s42_j8 g (v3) (h0) (h1) (h2) (h3)) := by kernel_rfl
theorem e42_j8 (J : List Item → St Ty → EvR) (g : List (List Int)) (v3 : Int) (h0 : List (List Bool)) (h1 : List Bool) (h2 : List (List Int)) (h3 : List Int) : run tb C42 U42 J (R42 g) 4096 k42_j8 (s42_j8 g v3 h0 h1 h2 h3) =
    J k42_l10 (s42_l10 g (v3) (0 : Int) (h0) (h1) (h2) (h3)) := by kernel_rfl
theorem e42_l10 (J : List Item → St Ty → EvR) (g : List (List Int)) (v3 : Int) (v13 : Int) (h0 : List (List Bool)) (h1 : List Bool) (h2 : List (List Int)) (h3 : List Int) : run tb C42 U42 J (R42 g) 4096 k42_l10 (s42_l10 g v3 v13 h0 h1 h2 h3) =
    if decide (v13 < (↑h3.length : Int)) = true then
     if (0 : Int) ≤ v13 then
      if v13 < (↑h3.length : Int) then
       if (0 : Int) ≤ h3.getD ((0 : Nat) + v13.toNat) (0 : Int) then
        if h3.getD ((0 : Nat) + v13.toNat) (0 : Int) < (↑h1.length : Int) then
         J k42_l10 (s42_l10 g (v3) (IntKind.i64.wrap (v13 + (1 : Int))) (h0) (h1.set ((0 : Nat) + Int.toNat (h3.getD ((0 : Nat) + v13.toNat) (0 : Int))) true) (h2) (h3))
        else
         none
       else
        none
      else
       none
     else
      none
    else
     J k42_j10 (s42_j10 g (v3) (h0) (h1) (h2) (h3)) := by kernel_rfl
theorem e42_j10 (J : List Item → St Ty → EvR) (g : List (List Int)) (v3 : Int) (h0 : List (List Bool)) (h1 : List Bool) (h2 : List (List Int)) (h3 : List Int) : run tb C42 U42 J (R42 g) 4096 k42_j10 (s42_j10 g v3 h0 h1 h2 h3) =
    if h2.length + [h3].length + (1 : Nat) ≤ (549755813888 : Nat) ∧ (h2.length + [h3].length + (1 : Nat)) * (24 : Nat) ≤ (549755813888 : Nat) then
     J k42_j4 (s42_j4 g (v3) (h0) (h1) (h2 ++ [h3]))
    else
     none := by kernel_rfl

theorem in42 : Entered 42 := ⟨Try.f42, b42, by kernel_rfl, by kernel_rfl, by kernel_rfl⟩
theorem fn42 (g : List (List Int)) {res : AV Ty} {outs : List (AV Ty)} (h : Ends C42 U42 (R42 g) [.code b42] ⟨slotsA (a42 g) 0 0, heapA (a42 g)⟩ (some (res, outs))) : CallOk tb Try.prog 42 (a42 g) res outs := by
  obtain ⟨n0, hn⟩ := h
  exact fn_ok (C := C42) (U := U42) (n := 0 + n0) (q := (.own 30)) tbOk good (fun f mu S h => by
    unfold C42 at h
    simp only at h
    split at h
    · cases h; exact ⟨in83, S83_ok⟩
    · cases h; exact ⟨in46, S46_ok⟩
    · cases h) mixed (fn := Try.f42) (body := b42) (by kernel_rfl) (by kernel_rfl) rfl rfl (by show 1 ≤ 124; omega) (hn 0)
noncomputable def farR (g : List (List Int)) (v : Nat) : List Bool := (leadL g (v : Int)).set v true
theorem farR_len (g : List (List Int)) (v : Nat) : (farR g v).length = g.length := by unfold farR; rw [List.length_set, leadL_len]
theorem farR_get {g : List (List Int)} {v w : Nat} (hv : v < g.length) (hw : w < g.length) : (farR g v).getD w false = true ↔ Rch (ed g) v w := by
  unfold farR
  rw [getD_set' (by rw [leadL_len]; exact hv), leadL_get hv hw]
  split
  · rename_i e; subst e; exact ⟨fun _ => .refl, fun _ => rfl⟩
  · rename_i e
    rw [ledB_iff]
    exact ⟨fun h => h.rch, fun h => h.cases'.resolve_left e⟩
noncomputable def farL (g : List (List Int)) (k : Nat) : List (List Bool) := (List.range g.length).map fun v => if v < k then farR g v else []
theorem farL_len (g : List (List Int)) (k : Nat) : (farL g k).length = g.length := by simp [farL]
theorem farL_get {g : List (List Int)} {k v : Nat} (hv : v < g.length) : (farL g k).getD v [] = if v < k then farR g v else [] := by
  simp [farL, List.getD_eq_getElem?_getD, hv]
theorem farL_zero (g : List (List Int)) : List.replicate g.length [] = farL g 0 := by
  refine ext_getD [] (by simp [farL]) fun i hi => ?_
  have : i < g.length := by simpa using hi
  rw [farL_get this]
  simp [List.getD_eq_getElem?_getD, this]
theorem farL_step {g : List (List Int)} {k : Nat} (hk : k < g.length) : ((farL g k).set k (leadL g (k : Int))).set k ((((farL g k).set k (leadL g (k : Int))).getD k []).set k true) = farL g (k + 1) := by
  refine ext_getD [] (by simp [farL]) fun i hi => ?_
  have hi : i < g.length := by simpa [farL] using hi
  rw [getD_set' (by rw [List.length_set, farL_len]; exact hk), getD_set' (by rw [farL_len]; exact hk), getD_set' (by rw [farL_len]; exact hk), farL_get hi, farL_get hi, if_pos rfl]
  by_cases e : k = i
  · subst e; rw [if_pos rfl, if_pos (by omega)]; rfl
  · rw [if_neg e, if_neg e]
    by_cases c : i < k
    · rw [if_pos c, if_pos (by omega)]
    · rw [if_neg c, if_neg (by omega)]
open Classical in
noncomputable def tB (n : Nat) (S : List Nat) : List Bool := (List.range n).map fun w => decide (w ∈ S)
theorem tB_len (n : Nat) (S : List Nat) : (tB n S).length = n := by simp [tB]
open Classical in
theorem tB_get {n w : Nat} {S : List Nat} (h : w < n) : (tB n S).getD w false = decide (w ∈ S) := by
  simp [tB, List.getD_eq_getElem?_getD, h]
theorem tB_set {n x : Nat} {S : List Nat} (h : x < n) : (tB n S).set x true = tB n (S ++ [x]) := by
  classical
  refine ext_getD false (by simp [tB]) fun i hi => ?_
  have hi : i < n := by simpa [tB] using hi
  rw [getD_set' (by rw [tB_len]; exact h), tB_get hi, tB_get hi]
  by_cases e : x = i
  · subst e; rw [if_pos rfl]; simp
  · rw [if_neg e]
    have : i ∈ S ++ [x] ↔ i ∈ S := by
      rw [List.mem_append, List.mem_singleton]
      exact ⟨fun h => h.elim id fun h => absurd h.symm e, .inl⟩
    simp only [this]
theorem tB_zero (n : Nat) : List.replicate n false = tB n [] := by
  classical
  refine ext_getD false (by simp [tB]) fun i hi => ?_
  have hi : i < n := by simpa using hi
  rw [tB_get hi]
  simp [List.getD_eq_getElem?_getD, hi]
/-- Nothing up to k stands in v's way. -/
def Free (g : List (List Int)) (o : List (List Nat)) (v k : Nat) : Prop := ∀ w, w < k → Rch (ed g) v w → ¬ Rch (ed g) w v → w ∈ o.flatten
open Classical in
noncomputable def clsK (g : List (List Int)) (v k : Nat) : List Nat := (List.range k).filter fun w => decide (Mate g v w)
theorem clsK_len (g : List (List Int)) (v k : Nat) : (clsK g v k).length ≤ k := by
  unfold clsK
  exact Nat.le_trans (List.length_filter_le _ _) (by simp)
theorem clsK_yes {g : List (List Int)} {v k : Nat} (h : Mate g v k) : clsK g v (k + 1) = clsK g v k ++ [k] := by
  classical
  unfold clsK
  rw [List.range_succ, List.filter_append, List.filter_cons_of_pos (by simpa using h), List.filter_nil]
theorem clsK_no {g : List (List Int)} {v k : Nat} (h : ¬ Mate g v k) : clsK g v (k + 1) = clsK g v k := by
  classical
  unfold clsK
  rw [List.range_succ, List.filter_append, List.filter_cons_of_neg (by simpa using h), List.filter_nil, List.append_nil]
section
variable {g : List (List Int)} {o : List (List Nat)} {v w : Nat}
theorem far_at (hv : v < g.length) : (farL g g.length).getD v [] = farR g v := by rw [farL_get hv, if_pos hv]
theorem sets_in6 (hg : smallRows g) (hv : v < g.length) {k : Nat} (hk : k < g.length) (b b' : Bool) (hb : b = true ↔ Free g o v k) (hb' : b' = true ↔ Free g o v (k + 1)) :
    Goes C42 U42 (R42 g) k42_l6 (s42_l6 g g.length v b k (farL g g.length) (tB g.length o.flatten) (intR o)) k42_l6 (s42_l6 g g.length v b' (k + 1 : Nat) (farL g g.length) (tB g.length o.flatten) (intR o)) := .step fun J => by
  classical
  have l0 := farL_len g g.length
  have l1 := farR_len g v
  have l2 := farR_len g k
  have l3 := tB_len g.length o.flatten
  have g1 := hg.1
  have split : Free g o v (k + 1) ↔ Free g o v k ∧ (Rch (ed g) v k → ¬ Rch (ed g) k v → k ∈ o.flatten) := by
    constructor
    · exact fun h => ⟨fun w hw => h w (by omega), fun h1 h2 => h k (by omega) h1 h2⟩
    · rintro ⟨h1, h2⟩ w hw a c
      rcases Nat.lt_or_ge w k with e | e
      · exact h1 w e a c
      · have : w = k := by omega
        subst this
        exact h2 a c
  rw [e42_l6]
  simp only [Int.toNat_natCast, Nat.zero_add, far_at hv, far_at hk, tB_get hk]
  have w1 : IntKind.i64.wrap ((k : Int) + 1) = ((k + 1 : Nat) : Int) := by rw [wrap_up (by omega)]; rfl
  have same : (Rch (ed g) v k → ¬ Rch (ed g) k v → k ∈ o.flatten) → b' = b := fun h => by
    rw [Bool.eq_iff_iff, hb, hb', split]
    exact ⟨fun h => h.1, fun h' => ⟨h', h⟩⟩
  by_cases c1 : Rch (ed g) v k
  · have d1 := (farR_get hv hk).2 c1
    by_cases c2 : Rch (ed g) k v
    · have d2 := (farR_get hk hv).2 c2
      rw [d1, d2, w1, same fun _ h => absurd c2 h]
      simp (disch := first | omega | assumption | (rw [decide_eq_true_eq]; omega) | (rw [decide_eq_false_iff_not]; omega)) only [↓if_pos, ↓if_neg, if_true, if_false, wrap_up, Int.toNat_natCast, Nat.zero_add, Bool.not_true, Bool.false_eq_true, l0, l1, l2, l3]
    · have d2 : (farR g k).getD v false = false := by rw [← Bool.not_eq_true, farR_get hk hv]; exact c2
      by_cases c3 : k ∈ o.flatten
      · rw [d1, d2, w1, same fun _ _ => c3, decide_eq_true c3]
        simp (disch := first | omega | assumption | (rw [decide_eq_true_eq]; omega) | (rw [decide_eq_false_iff_not]; omega)) only [↓if_pos, ↓if_neg, if_true, if_false, wrap_up, Int.toNat_natCast, Nat.zero_add, Bool.not_true, Bool.not_false, Bool.false_eq_true, l0, l1, l2, l3]
      · have : b' = false := by rw [← Bool.not_eq_true, hb', split]; exact fun h => c3 (h.2 c1 c2)
        rw [d1, d2, w1, this, decide_eq_false c3]
        simp (disch := first | omega | assumption | (rw [decide_eq_true_eq]; omega) | (rw [decide_eq_false_iff_not]; omega)) only [↓if_pos, ↓if_neg, if_true, if_false, wrap_up, Int.toNat_natCast, Nat.zero_add, Bool.not_true, Bool.not_false, Bool.false_eq_true, l0, l1, l2, l3]
  · have d1 : (farR g v).getD k false = false := by rw [← Bool.not_eq_true, farR_get hv hk]; exact c1
    rw [d1, w1, same fun h => absurd h c1]
    simp (disch := first | omega | assumption | (rw [decide_eq_true_eq]; omega) | (rw [decide_eq_false_iff_not]; omega)) only [↓if_pos, ↓if_neg, if_true, if_false, wrap_up, Int.toNat_natCast, Nat.zero_add, Bool.not_true, Bool.false_eq_true, l0, l1, l2, l3]
theorem sets_in8 (hg : smallRows g) (hv : v < g.length) {k : Nat} (hk : k < g.length) :
    Goes C42 U42 (R42 g) k42_l8 (s42_l8 g g.length v k (farL g g.length) (tB g.length o.flatten) (intR o) (intL (clsK g v k))) k42_l8 (s42_l8 g g.length v (k + 1 : Nat) (farL g g.length) (tB g.length o.flatten) (intR o) (intL (clsK g v (k + 1)))) := .step fun J => by
  have l0 := farL_len g g.length
  have l1 := farR_len g v
  have l2 := farR_len g k
  have g1 := hg.1
  have l4 := clsK_len g v k
  have l5 := intL_len (clsK g v k)
  rw [e42_l8]
  simp only [Int.toNat_natCast, Nat.zero_add, far_at hv, far_at hk]
  have w1 : IntKind.i64.wrap ((k : Int) + 1) = ((k + 1 : Nat) : Int) := by rw [wrap_up (by omega)]; rfl
  by_cases c1 : Rch (ed g) v k
  · have d1 := (farR_get hv hk).2 c1
    by_cases c2 : Rch (ed g) k v
    · have d2 := (farR_get hk hv).2 c2
      rw [d1, d2, w1, clsK_yes ⟨c1, c2⟩, intL_app]
      simp (disch := first | omega | assumption | (rw [decide_eq_true_eq]; omega) | (rw [decide_eq_false_iff_not]; omega)) only [↓if_pos, ↓if_neg, if_true, if_false, wrap_up, Int.toNat_natCast, Nat.zero_add, l0, l1, l2, l5, List.length_cons, List.length_nil]
    · have d2 : (farR g k).getD v false = false := by rw [← Bool.not_eq_true, farR_get hk hv]; exact c2
      rw [d1, d2, w1, clsK_no fun h => c2 h.2]
      simp (disch := first | omega | assumption | (rw [decide_eq_true_eq]; omega) | (rw [decide_eq_false_iff_not]; omega)) only [↓if_pos, ↓if_neg, if_true, if_false, wrap_up, Int.toNat_natCast, Nat.zero_add, Bool.false_eq_true, l0, l1, l2, l5]
  · have d1 : (farR g v).getD k false = false := by rw [← Bool.not_eq_true, farR_get hv hk]; exact c1
    rw [d1, w1, clsK_no fun h => c1 h.1]
    simp (disch := first | omega | assumption | (rw [decide_eq_true_eq]; omega) | (rw [decide_eq_false_iff_not]; omega)) only [↓if_pos, ↓if_neg, if_true, if_false, wrap_up, Int.toNat_natCast, Nat.zero_add, Bool.false_eq_true, l0, l1, l2, l5]
theorem sets_in10 (hg : smallRows g) {S : List Nat} {k : Nat} (hk : k < (cls g v).length) :
    Goes C42 U42 (R42 g) k42_l10 (s42_l10 g g.length k (farL g g.length) (tB g.length (S ++ (cls g v).take k)) (intR o) (intL (cls g v))) k42_l10 (s42_l10 g g.length (k + 1 : Nat) (farL g g.length) (tB g.length (S ++ (cls g v).take (k + 1))) (intR o) (intL (cls g v))) := .step fun J => by
  have g1 := hg.1
  have hx := (mem_cls.1 (getD_in (d := 0) hk)).1
  have l3 := tB_len g.length (S ++ (cls g v).take k)
  have l5 := intL_len (cls g v)
  have l6 : (cls g v).length ≤ g.length := clsK_len g v g.length
  have e1 : (cls g v).take (k + 1) = (cls g v).take k ++ [(cls g v).getD k 0] := by
    rw [List.take_add_one, List.getD_eq_getElem?_getD, List.getElem?_eq_getElem hk]
    rfl
  have w1 : IntKind.i64.wrap ((k : Int) + 1) = ((k + 1 : Nat) : Int) := by rw [wrap_up (by omega)]; rfl
  rw [e42_l10]
  simp only [Int.toNat_natCast, Nat.zero_add, intL_getD]
  rw [w1, e1, ← List.append_assoc, ← tB_set hx]
  simp (disch := first | omega | assumption | (rw [decide_eq_true_eq]; omega) | (rw [decide_eq_false_iff_not]; omega)) only [↓if_pos, ↓if_neg, if_true, if_false, wrap_up, Int.toNat_natCast, Nat.zero_add, l3, l5]
theorem sets_skip (hg : smallRows g) (hv : v < g.length) (hn : ¬ Ready g o v) :
    Goes C42 U42 (R42 g) k42_l4 (s42_l4 g g.length v (farL g g.length) (tB g.length o.flatten) (intR o)) k42_l4 (s42_l4 g g.length (v + 1 : Nat) (farL g g.length) (tB g.length o.flatten) (intR o)) := by
  classical
  have g1 := hg.1
  have l3 := tB_len g.length o.flatten
  have j5 : Goes C42 U42 (R42 g) k42_j5 (s42_j5 g g.length v (farL g g.length) (tB g.length o.flatten) (intR o)) k42_l4 (s42_l4 g g.length (v + 1 : Nat) (farL g g.length) (tB g.length o.flatten) (intR o)) := .step fun J => by
    rw [e42_j5, wrap_up (by omega)]
    rfl
  by_cases c : v ∈ o.flatten
  · refine Goes.trans (.step fun J => ?_) j5
    rw [e42_l4]
    simp only [Int.toNat_natCast, Nat.zero_add, tB_get hv]
    rw [decide_eq_true c]
    simp (disch := first | omega | assumption | (rw [decide_eq_true_eq]; omega) | (rw [decide_eq_false_iff_not]; omega)) only [↓if_pos, ↓if_neg, if_true, if_false, wrap_up, Int.toNat_natCast, Nat.zero_add, l3]
  · have hf : ¬ Free g o v g.length := fun h => hn ⟨hv, c, fun w a b => h w (rch_lt a hv) a b⟩
    refine Goes.trans (.step (k' := k42_l6) (s' := s42_l6 g g.length v (decide (Free g o v 0)) (0 : Nat) (farL g g.length) (tB g.length o.flatten) (intR o)) fun J => ?_) (Goes.trans (Goes.upto (fun k => s42_l6 g g.length v (decide (Free g o v k)) k (farL g g.length) (tB g.length o.flatten) (intR o)) g.length (fun k hk => sets_in6 hg hv hk _ _ decide_eq_true_iff decide_eq_true_iff) g.length (Nat.le_refl _)) (Goes.trans (.step (k' := k42_j6) (s' := s42_j6 g g.length v (decide (Free g o v g.length)) (farL g g.length) (tB g.length o.flatten) (intR o)) fun J => ?_) (Goes.trans (.step fun J => ?_) j5)))
    · rw [e42_l4]
      simp only [Int.toNat_natCast, Nat.zero_add, tB_get hv]
      rw [decide_eq_false c, decide_eq_true (show Free g o v 0 from fun w hw => by omega)]
      simp (disch := first | omega | assumption | (rw [decide_eq_true_eq]; omega) | (rw [decide_eq_false_iff_not]; omega)) only [↓if_pos, ↓if_neg, if_true, if_false, wrap_up, Int.toNat_natCast, Nat.zero_add, l3, Bool.false_eq_true]
      rfl
    · rw [e42_l6]
      simp (disch := first | omega | assumption | (rw [decide_eq_true_eq]; omega) | (rw [decide_eq_false_iff_not]; omega)) only [↓if_pos, ↓if_neg, if_true, if_false, wrap_up, Int.toNat_natCast, Nat.zero_add]
    · rw [e42_j6, decide_eq_false hf]
      rfl
theorem sets_hit (hg : smallRows g) (h : Way g o) (hn : Next g o v) :
    Goes C42 U42 (R42 g) k42_l4 (s42_l4 g g.length v (farL g g.length) (tB g.length o.flatten) (intR o)) k42_l2 (s42_l2 g g.length (farL g g.length) (tB g.length (o ++ [cls g v]).flatten) (intR (o ++ [cls g v]))) := by
  classical
  have g1 := hg.1
  have hv := hn.1.1
  have l3 := tB_len g.length o.flatten
  have hf : Free g o v g.length := fun w _ a b => hn.1.2.2 w a b
  have ho : o.length ≤ g.length := Nat.le_trans h.count h.len
  have lo := intR_len o
  have l6 : (cls g v).length ≤ g.length := clsK_len g v g.length
  refine Goes.trans (.step (k' := k42_l6) (s' := s42_l6 g g.length v (decide (Free g o v 0)) (0 : Nat) (farL g g.length) (tB g.length o.flatten) (intR o)) fun J => ?_) (Goes.trans (Goes.upto (fun k => s42_l6 g g.length v (decide (Free g o v k)) k (farL g g.length) (tB g.length o.flatten) (intR o)) g.length (fun k hk => sets_in6 hg hv hk _ _ decide_eq_true_iff decide_eq_true_iff) g.length (Nat.le_refl _)) (Goes.trans (.step (k' := k42_j6) (s' := s42_j6 g g.length v (decide (Free g o v g.length)) (farL g g.length) (tB g.length o.flatten) (intR o)) fun J => ?_) (Goes.trans (.step (k' := k42_l8) (s' := s42_l8 g g.length v (0 : Nat) (farL g g.length) (tB g.length o.flatten) (intR o) (intL (clsK g v 0))) fun J => ?_) (Goes.trans (Goes.upto (fun k => s42_l8 g g.length v k (farL g g.length) (tB g.length o.flatten) (intR o) (intL (clsK g v k))) g.length (fun k hk => sets_in8 hg hv hk) g.length (Nat.le_refl _)) (Goes.trans (.step (k' := k42_j8) (s' := s42_j8 g g.length (farL g g.length) (tB g.length o.flatten) (intR o) (intL (cls g v))) fun J => ?_)
    (Goes.trans (.step (k' := k42_l10) (s' := s42_l10 g g.length (0 : Nat) (farL g g.length) (tB g.length (o.flatten ++ (cls g v).take 0)) (intR o) (intL (cls g v))) fun J => ?_) (Goes.trans (Goes.upto (fun k => s42_l10 g g.length k (farL g g.length) (tB g.length (o.flatten ++ (cls g v).take k)) (intR o) (intL (cls g v))) (cls g v).length (fun k hk => sets_in10 hg hk) (cls g v).length (Nat.le_refl _)) (Goes.trans (.step (k' := k42_j10) (s' := s42_j10 g g.length (farL g g.length) (tB g.length (o.flatten ++ cls g v)) (intR o) (intL (cls g v))) fun J => ?_) (Goes.trans (.step (k' := k42_j4) (s' := s42_j4 g g.length (farL g g.length) (tB g.length (o.flatten ++ cls g v)) (intR o ++ [intL (cls g v)])) fun J => ?_) (Goes.trans (.step fun J => e42_j4 J _ _ _ _ _) (.step fun J => ?_)))))))))))
  · rw [e42_l4]
    simp only [Int.toNat_natCast, Nat.zero_add, tB_get hv]
    rw [decide_eq_false hn.1.2.1, decide_eq_true (show Free g o v 0 from fun w hw => by omega)]
    simp (disch := first | omega | assumption | (rw [decide_eq_true_eq]; omega) | (rw [decide_eq_false_iff_not]; omega)) only [↓if_pos, ↓if_neg, if_true, if_false, wrap_up, Int.toNat_natCast, Nat.zero_add, l3, Bool.false_eq_true]
    rfl
  · rw [e42_l6]
    simp (disch := first | omega | assumption | (rw [decide_eq_true_eq]; omega) | (rw [decide_eq_false_iff_not]; omega)) only [↓if_pos, ↓if_neg, if_true, if_false, wrap_up, Int.toNat_natCast, Nat.zero_add]
  · rw [e42_j6, decide_eq_true hf]
    rfl
  · rw [e42_l8]
    simp (disch := first | omega | assumption | (rw [decide_eq_true_eq]; omega) | (rw [decide_eq_false_iff_not]; omega)) only [↓if_pos, ↓if_neg, if_true, if_false, wrap_up, Int.toNat_natCast, Nat.zero_add]
    rfl
  · rw [e42_j8, List.take_zero, List.append_nil]
    rfl
  · rw [e42_l10]
    simp only [intL_len, List.take_length]
    simp (disch := first | omega | assumption | (rw [decide_eq_true_eq]; omega) | (rw [decide_eq_false_iff_not]; omega)) only [↓if_pos, ↓if_neg, if_true, if_false, wrap_up, Int.toNat_natCast, Nat.zero_add]
  · rw [e42_j10]
    simp (disch := first | omega | assumption | (rw [decide_eq_true_eq]; omega) | (rw [decide_eq_false_iff_not]; omega)) only [↓if_pos, ↓if_neg, if_true, if_false, wrap_up, Int.toNat_natCast, Nat.zero_add, lo, List.length_cons, List.length_nil]
  · rw [e42_j3, flat_snoc, intR_snoc]
theorem sets_round (hg : smallRows g) (h : Way g o) (hf : ¬ Full g o) : ∃ o', Way g o' ∧ g.length - o'.flatten.length < g.length - o.flatten.length ∧
    Goes C42 U42 (R42 g) k42_l2 (s42_l2 g g.length (farL g g.length) (tB g.length o.flatten) (intR o)) k42_l2 (s42_l2 g g.length (farL g g.length) (tB g.length o'.flatten) (intR o')) := by
  obtain ⟨v, hv⟩ := next_some hf
  have h2 := Way.snoc h hv
  have h3 := h2.len
  have h4 := h.len
  rw [flat_snoc, List.length_append] at h3
  have h5 := List.length_pos_of_mem (cls_ne hv.1.1)
  refine ⟨_, h2, by rw [flat_snoc, List.length_append]; omega, Goes.trans (.step (k' := k42_l4) (s' := s42_l4 g g.length (0 : Nat) (farL g g.length) (tB g.length o.flatten) (intR o)) fun J => ?_) (Goes.trans (Goes.upto (fun k => s42_l4 g g.length k (farL g g.length) (tB g.length o.flatten) (intR o)) v (fun k hk => sets_skip hg (by have := hv.1.1; omega) (hv.2 k hk)) v (Nat.le_refl _)) (sets_hit hg h hv))⟩
  have hs : smallRows (intR o) := by
    have g1 := hg.1
    refine ⟨by rw [intR_len]; exact Nat.le_trans h.count (by omega), fun r hr => ?_⟩
    unfold intR at hr
    obtain ⟨l, hl, rfl⟩ := List.mem_map.1 hr
    rw [intL_len]
    have := h.row l hl
    omega
  have hl : (intR o).flatten.length = o.flatten.length := by rw [intR_flat, intL_len]
  have hlt : o.flatten.length < g.length := by
    rcases Nat.lt_or_ge o.flatten.length g.length with c | c
    · exact c
    · exact absurd (h.full.2 (by omega)) hf
  rw [e42_l2]
  simp only [hl]
  simp (disch := first | omega | assumption | (rw [decide_eq_true_eq]; omega) | (rw [decide_eq_false_iff_not]; omega)) only [↓if_pos, ↓if_neg, if_true, if_false, wrap_up, Int.toNat_natCast, Nat.zero_add]
  rfl
end
theorem sets_ok (g : List (List Int)) (hg : smallRows g) : CallOk tb Try.prog 42 (a42 g) (.sl false 30 (setsI g)) [.dead] := by
  have g1 := hg.1
  obtain ⟨o, h1, h2, h3⟩ := Goes.loop (C := C42) (U := U42) (Rt := R42 g) (k := k42_l2) (fun o => s42_l2 g g.length (farL g g.length) (tB g.length o.flatten) (intR o)) (Way g) (Full g) (fun o => g.length - o.flatten.length) (fun o h hf => sets_round hg h hf) _ [] (Nat.lt_succ_self _) .nil
  have e := setsN_eq h1 h2
  subst e
  refine fn42 g (Goes.ends (.step (k' := k42_l0) (s' := s42_l0 g g.length (0 : Nat) (farL g 0)) fun J => ?_) (Goes.ends (Goes.upto (fun k => s42_l0 g g.length k (farL g k)) g.length (fun k hk => .step fun J => ?_) g.length (Nat.le_refl _)) (Goes.ends (.step (k' := k42_j0) (s' := s42_j0 g g.length (farL g g.length)) fun J => ?_) (Goes.ends (.step (k' := k42_l2) (s' := s42_l2 g g.length (farL g g.length) (tB g.length ([] : List (List Nat)).flatten) (intR [])) fun J => ?_) (Goes.ends h3 (Goes.ends (.step (k' := k42_j2) (s' := s42_j2 g (setsI g)) fun J => ?_) (.step fun J => e42_j2 J _ _)))))))
  · rw [e42, Int.toNat_natCast, farL_zero]
    simp (disch := first | omega | assumption | (rw [decide_eq_true_eq]; omega) | (rw [decide_eq_false_iff_not]; omega)) only [↓if_pos, ↓if_neg, if_true, if_false, wrap_up, Int.toNat_natCast, Nat.zero_add]
    rfl
  · have l0 := farL_len g k
    have l1 := leadL_len g (k : Int)
    rw [e42_l0]
    simp only [Int.toNat_natCast, Nat.zero_add]
    rw [farL_step hk]
    have l2 : ((farL g k).set k (leadL g (k : Int))).getD k [] = leadL g (k : Int) := by rw [getD_set' (by omega), if_pos rfl]
    simp (disch := first | omega | assumption | (rw [decide_eq_true_eq]; omega) | (rw [decide_eq_false_iff_not]; omega)) only [↓if_pos, ↓if_neg, if_true, if_false, wrap_up, Int.toNat_natCast, Nat.zero_add, l0, l2, l1, List.length_set]
    rfl
  · rw [e42_l0]
    simp (disch := first | omega | assumption | (rw [decide_eq_true_eq]; omega) | (rw [decide_eq_false_iff_not]; omega)) only [↓if_pos, ↓if_neg, if_true, if_false, wrap_up, Int.toNat_natCast, Nat.zero_add]
  · rw [e42_j0, Int.toNat_natCast, tB_zero]
    simp (disch := first | omega | assumption | (rw [decide_eq_true_eq]; omega) | (rw [decide_eq_false_iff_not]; omega)) only [↓if_pos, ↓if_neg, if_true, if_false, wrap_up, Int.toNat_natCast, Nat.zero_add]
    rfl
  · have hl : (intR (setsN g)).flatten.length = g.length := setsI_flat_len g
    have hs : smallRows (intR (setsN g)) := ⟨Nat.le_trans (setsI_len_le g) (by omega), fun r hr => Nat.le_trans (setsI_row_le (g := g) hr) (by omega)⟩
    rw [e42_l2]
    simp only [hl]
    simp (disch := first | omega | assumption | (rw [decide_eq_true_eq]; omega) | (rw [decide_eq_false_iff_not]; omega)) only [↓if_pos, ↓if_neg, if_true, if_false, wrap_up, Int.toNat_natCast, Nat.zero_add]
    rfl
def Small30 (g : List (List Int)) : Prop := smallRows g
noncomputable def S42 : List (AV Ty) → T (AV Ty × List (AV Ty))
  | [.sl false 30 g] => .ite (smallRows g) (smallRows.dec g) (.ret (.sl false 30 (setsI g), [.dead])) .fail
  | _ => .fail
theorem S42_ok (l : List (AV Ty)) (r : AV Ty) (outs : List (AV Ty)) (h : (S42 l).val = some (r, outs)) : CallOk tb Try.prog 42 l r outs := by
  unfold S42 at h
  split at h
  · rcases ite_val h with ⟨e, h⟩ | ⟨_, h⟩
    · cases h; exact sets_ok _ e
    · cases h
  · cases h
end Go.Proofs.Ytggibjbcbicpjaa.Ev
