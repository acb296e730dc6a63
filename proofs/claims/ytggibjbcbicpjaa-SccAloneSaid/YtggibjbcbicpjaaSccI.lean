/- scc.Of: it answers the one list of sets. -/
import Derived.Test.YtggibjbcbicpjaaSccX
namespace Go.Proofs.Ytggibjbcbicpjaa.Ev
open Go
set_option linter.unusedVariables false
set_option linter.unusedSimpArgs false
noncomputable def b44 : Code := bodyOf Try.f44
noncomputable def C44 : Cfg Ty := ⟨fun
  | 84 => some ([true], S84)
  | 85 => some ([], S85)
  | _ => none, fun
  | 25 => true
  | 17 => true
  | 19 => true
  | 21 => true
  | 23 => true
  | 47 => true
  | 65 => true
  | 66 => true
  | 100067 => true
  | _ => false, 117, 0⟩
def U44 : Cuts := ⟨fun
  | 0 => some [(0, none), (4, none)]
  | 2 => some [(0, none), (4, none), (6, some 1030)]
  | 4 => some [(10, some 30)]
  | 5 => some [(0, none), (4, none), (6, none), (9, none), (10, some 30)]
  | 6 => some [(0, none), (4, none), (6, none), (9, none), (10, some 30)]
  | _ => none, fun
  | 0 => some [(0, none), (4, none), (27, none), (28, none)]
  | 2 => some [(0, none), (4, none), (6, none), (51, none), (52, none), (53, none)]
  | 4 => some [(0, none), (4, none), (6, none), (9, none), (10, some 30)]
  | 6 => some [(0, none), (4, none), (6, none), (9, none), (10, some 30), (80, none), (81, none)]
  | _ => none, fun
  | 2 => some [0, 1, 3, 5, 7, 1000, 2, 4, 6, 8, 1000, 9, 10, 11]
  | _ => none⟩
/-- join 0: live: 0, 4 -/
noncomputable def k44_j0 : List Item := [.code (sndC (sndC (sndC (sndC b44))))]
/-- loop 0: live: 0, 4, 27, 28 -/
noncomputable def k44_l0 : List Item := [.code (inC (inC (sndC (fstC (sndC (sndC (sndC b44))))))), .inLoop (inC (inC (sndC (fstC (sndC (sndC (sndC b44))))))), .inBlock 0, .code (sndC (sndC (sndC (sndC b44))))]
/-- join 2: live: 0, 4, 6 -/
noncomputable def k44_j2 : List Item := [.code (sndC (sndC (sndC (sndC (sndC (sndC b44))))))]
/-- loop 2: live: 0, 4, 6, 51, 52, 53 -/
noncomputable def k44_l2 : List Item := [.code (inC (inC (sndC (fstC (sndC (sndC (sndC (sndC (sndC b44))))))))), .inLoop (inC (inC (sndC (fstC (sndC (sndC (sndC (sndC (sndC b44))))))))), .inBlock 2, .code (sndC (sndC (sndC (sndC (sndC (sndC b44))))))]
/-- join 4: live: 10 -/
noncomputable def k44_j4 : List Item := [.code (sndC (sndC (sndC (sndC (sndC (sndC (sndC (sndC (sndC b44)))))))))]
/-- loop 4: live: 0, 4, 6, 9, 10 -/
noncomputable def k44_l4 : List Item := [.code (inC (inC (fstC (sndC (sndC (sndC (sndC (sndC (sndC (sndC (sndC b44))))))))))), .inLoop (inC (inC (fstC (sndC (sndC (sndC (sndC (sndC (sndC (sndC (sndC b44))))))))))), .inBlock 4, .code (sndC (sndC (sndC (sndC (sndC (sndC (sndC (sndC (sndC b44)))))))))]
/-- join 5: live: 0, 4, 6, 9, 10 -/
noncomputable def k44_j5 : List Item := [.inLoop (inC (inC (fstC (sndC (sndC (sndC (sndC (sndC (sndC (sndC (sndC b44))))))))))), .inBlock 4, .code (sndC (sndC (sndC (sndC (sndC (sndC (sndC (sndC (sndC b44)))))))))]
/-- join 6: live: 0, 4, 6, 9, 10 -/
noncomputable def k44_j6 : List Item := [.inBlock 5, .inLoop (inC (inC (fstC (sndC (sndC (sndC (sndC (sndC (sndC (sndC (sndC b44))))))))))), .inBlock 4, .code (sndC (sndC (sndC (sndC (sndC (sndC (sndC (sndC (sndC b44)))))))))]
/-- loop 6: live: 0, 4, 6, 9, 10, 80, 81 -/
noncomputable def k44_l6 : List Item := [.code (inC (inC (sndC (inC (sndC (inC (inC (fstC (sndC (sndC (sndC (sndC (sndC (sndC (sndC (sndC b44)))))))))))))))), .inLoop (inC (inC (sndC (inC (sndC (inC (inC (fstC (sndC (sndC (sndC (sndC (sndC (sndC (sndC (sndC b44)))))))))))))))), .inBlock 6, .inBlock 5, .inLoop (inC (inC (fstC (sndC (sndC (sndC (sndC (sndC (sndC (sndC (sndC b44))))))))))), .inBlock 4, .code (sndC (sndC (sndC (sndC (sndC (sndC (sndC (sndC (sndC b44)))))))))]
def a44 (g : List (List Int)) : List (AV Ty) := [.sl false (30 : Nat) g]
noncomputable def R44 (g : List (List Int)) : St Ty → EvR := resT tb C44 Try.f44.results.toList (.own 30) (a44 g)
def s44_l0 (g : List (List Int)) (v27 : Int) (v28 : Int) (h0 : List (List Int)) (h0_1 : List Int) (h0_2 : List Int) (h0_3 : List Bool) (h0_4 : List Int) (h0_5 : Int) (h0_6 : List Int) (h0_7 : Int) : St Ty := St.mk [(0, .sl false (30) g), (4, .ptr (0) [] (0) (0)), (27, .v (.int .i64 v27)), (28, .v (.int .i64 v28))] [some (Root.mk (104) true [Tarjan.mk h0 h0_1 h0_2 h0_3 h0_4 h0_5 h0_6 h0_7])]
def s44_j0 (g : List (List Int)) (h0 : List (List Int)) (h0_1 : List Int) (h0_2 : List Int) (h0_3 : List Bool) (h0_4 : List Int) (h0_5 : Int) (h0_6 : List Int) (h0_7 : Int) : St Ty := St.mk [(0, .sl false (30) g), (4, .ptr (0) [] (0) (0))] [some (Root.mk (104) true [Tarjan.mk h0 h0_1 h0_2 h0_3 h0_4 h0_5 h0_6 h0_7])]
def s44_l2 (g : List (List Int)) (v52 : Int) (v53 : Int) (h0 : List (List Int)) (h0_1 : List Int) (h0_2 : List Int) (h0_3 : List Bool) (h0_4 : List Int) (h0_5 : Int) (h0_6 : List Int) (h0_7 : Int) (h1 : List (List Int)) : St Ty := St.mk [(0, .sl false (30) g), (4, .ptr (0) [] (0) (0)), (6, .ref (1) [] none false), (51, .ref (0) [(0, 6)] none false), (52, .v (.int .i64 v52)), (53, .v (.int .i64 v53))] [some (Root.mk (104) true [Tarjan.mk h0 h0_1 h0_2 h0_3 h0_4 h0_5 h0_6 h0_7]), some (Root.mk (30) true h1)]
def s44_j2 (g : List (List Int)) (v6 : List (List Int)) (h0 : List (List Int)) (h0_1 : List Int) (h0_2 : List Int) (h0_3 : List Bool) (h0_4 : List Int) (h0_5 : Int) (h0_6 : List Int) (h0_7 : Int) : St Ty := St.mk [(0, .sl false (30) g), (4, .ptr (0) [] (0) (0)), (6, .sl false (30) v6)] [some (Root.mk (104) true [Tarjan.mk h0 h0_1 h0_2 h0_3 h0_4 h0_5 h0_6 h0_7])]
def s44_l4 (g : List (List Int)) (v6 : List (List Int)) (h0 : List (List Int)) (h0_1 : List Int) (h0_2 : List Int) (h0_3 : List Bool) (h0_4 : List Int) (h0_5 : Int) (h0_6 : List Int) (h0_7 : Int) (h1 : List Bool) (h2 : List (List Int)) : St Ty := St.mk [(0, .sl false (30) g), (4, .ptr (0) [] (0) (0)), (6, .sl false (30) v6), (9, .ref (1) [] none false), (10, .ref (2) [] none false)] [some (Root.mk (104) true [Tarjan.mk h0 h0_1 h0_2 h0_3 h0_4 h0_5 h0_6 h0_7]), some (Root.mk (4) false h1), some (Root.mk (30) false h2)]
def s44_l6 (g : List (List Int)) (v6 : List (List Int)) (v80 : Int) (v81 : Int) (h0 : List (List Int)) (h0_1 : List Int) (h0_2 : List Int) (h0_3 : List Bool) (h0_4 : List Int) (h0_5 : Int) (h0_6 : List Int) (h0_7 : Int) (h1 : List Bool) (h2 : List (List Int)) : St Ty := St.mk [(0, .sl false (30) g), (4, .ptr (0) [] (0) (0)), (6, .sl false (30) v6), (9, .ref (1) [] none false), (10, .ref (2) [] none false), (80, .v (.int .i64 v80)), (81, .v (.int .i64 v81))] [some (Root.mk (104) true [Tarjan.mk h0 h0_1 h0_2 h0_3 h0_4 h0_5 h0_6 h0_7]), some (Root.mk (4) false h1), some (Root.mk (30) false h2)]
def s44_j4 (g : List (List Int)) (h0 : List (List Int)) : St Ty := St.mk [(10, .ref (0) [] none false)] [some (Root.mk (30) false h0)]
def s44_j6 (g : List (List Int)) (v6 : List (List Int)) (h0 : List (List Int)) (h0_1 : List Int) (h0_2 : List Int) (h0_3 : List Bool) (h0_4 : List Int) (h0_5 : Int) (h0_6 : List Int) (h0_7 : Int) (h1 : List Bool) (h2 : List (List Int)) : St Ty := St.mk [(0, .sl false (30) g), (4, .ptr (0) [] (0) (0)), (6, .sl false (30) v6), (9, .ref (1) [] none false), (10, .ref (2) [] none false)] [some (Root.mk (104) true [Tarjan.mk h0 h0_1 h0_2 h0_3 h0_4 h0_5 h0_6 h0_7]), some (Root.mk (4) false h1), some (Root.mk (30) false h2)]
def s44_j5 (g : List (List Int)) (v6 : List (List Int)) (h0 : List (List Int)) (h0_1 : List Int) (h0_2 : List Int) (h0_3 : List Bool) (h0_4 : List Int) (h0_5 : Int) (h0_6 : List Int) (h0_7 : Int) (h1 : List Bool) (h2 : List (List Int)) : St Ty := St.mk [(0, .sl false (30) g), (4, .ptr (0) [] (0) (0)), (6, .sl false (30) v6), (9, .ref (1) [] none false), (10, .ref (2) [] none false)] [some (Root.mk (104) true [Tarjan.mk h0 h0_1 h0_2 h0_3 h0_4 h0_5 h0_6 h0_7]), some (Root.mk (4) false h1), some (Root.mk (30) false h2)]
theorem e44 (J : List Item → St Ty → EvR) (g : List (List Int)) : run tb C44 U44 J (R44 g) 4096 [.code b44] ⟨slotsA (a44 g) 0 0, heapA (a44 g)⟩ =
    meet (
     if (0 : Int) ≤ (↑g.length : Int) ∧ (↑g.length : Int) ≤ (↑g.length : Int) ∧ (↑g.length : Int) ≤ (1099511627776 : Int) ∧ (↑g.length : Int) * (↑(8 : Nat) : Int) ≤ (1099511627776 : Int) then
      meet (
       if (0 : Int) ≤ (↑g.length : Int) ∧ (↑g.length : Int) ≤ (↑g.length : Int) ∧ (↑g.length : Int) ≤ (1099511627776 : Int) ∧ (↑g.length : Int) * (↑(8 : Nat) : Int) ≤ (1099511627776 : Int) then
        meet (
         if (0 : Int) ≤ (↑g.length : Int) ∧ (↑g.length : Int) ≤ (↑g.length : Int) ∧ (↑g.length : Int) ≤ (1099511627776 : Int) ∧ (↑g.length : Int) * (↑(1 : Nat) : Int) ≤ (1099511627776 : Int) then
          if (0 : Int) ≤ (↑g.length : Int) ∧ (↑g.length : Int) ≤ (↑g.length : Int) ∧ (↑g.length : Int) ≤ (1099511627776 : Int) ∧ (↑g.length : Int) * (↑(8 : Nat) : Int) ≤ (1099511627776 : Int) then
           J k44_l0 (s44_l0 g ((↑g.length : Int)) (0 : Int) (g) (List.replicate (↑g.length : Int).toNat (0 : Int)) (List.replicate (↑g.length : Int).toNat (0 : Int)) (List.replicate (↑g.length : Int).toNat false) ([]) (0 : Int) (List.replicate (↑g.length : Int).toNat (0 : Int)) (0 : Int))
          else
           none
         else
          none
        ) (
         if (0 : Int) ≤ (↑g.length : Int) ∧ (↑g.length : Int) ≤ (↑g.length : Int) ∧ (↑g.length : Int) ≤ (1099511627776 : Int) ∧ (↑g.length : Int) * (↑(8 : Nat) : Int) ≤ (1099511627776 : Int) then
          if (0 : Int) ≤ (↑g.length : Int) ∧ (↑g.length : Int) ≤ (↑g.length : Int) ∧ (↑g.length : Int) ≤ (1099511627776 : Int) ∧ (↑g.length : Int) * (↑(1 : Nat) : Int) ≤ (1099511627776 : Int) then
           J k44_l0 (s44_l0 g ((↑g.length : Int)) (0 : Int) (g) (List.replicate (↑g.length : Int).toNat (0 : Int)) (List.replicate (↑g.length : Int).toNat (0 : Int)) (List.replicate (↑g.length : Int).toNat false) ([]) (0 : Int) (List.replicate (↑g.length : Int).toNat (0 : Int)) (0 : Int))
          else
           none
         else
          none
        )
       else
        none
      ) (
       meet (
        if (0 : Int) ≤ (↑g.length : Int) ∧ (↑g.length : Int) ≤ (↑g.length : Int) ∧ (↑g.length : Int) ≤ (1099511627776 : Int) ∧ (↑g.length : Int) * (↑(1 : Nat) : Int) ≤ (1099511627776 : Int) then
         meet (
          if (0 : Int) ≤ (↑g.length : Int) ∧ (↑g.length : Int) ≤ (↑g.length : Int) ∧ (↑g.length : Int) ≤ (1099511627776 : Int) ∧ (↑g.length : Int) * (↑(8 : Nat) : Int) ≤ (1099511627776 : Int) then
           if (0 : Int) ≤ (↑g.length : Int) ∧ (↑g.length : Int) ≤ (↑g.length : Int) ∧ (↑g.length : Int) ≤ (1099511627776 : Int) ∧ (↑g.length : Int) * (↑(8 : Nat) : Int) ≤ (1099511627776 : Int) then
            J k44_l0 (s44_l0 g ((↑g.length : Int)) (0 : Int) (g) (List.replicate (↑g.length : Int).toNat (0 : Int)) (List.replicate (↑g.length : Int).toNat (0 : Int)) (List.replicate (↑g.length : Int).toNat false) ([]) (0 : Int) (List.replicate (↑g.length : Int).toNat (0 : Int)) (0 : Int))
           else
            none
          else
           none
         ) (
          if (0 : Int) ≤ (↑g.length : Int) ∧ (↑g.length : Int) ≤ (↑g.length : Int) ∧ (↑g.length : Int) ≤ (1099511627776 : Int) ∧ (↑g.length : Int) * (↑(8 : Nat) : Int) ≤ (1099511627776 : Int) then
           if (0 : Int) ≤ (↑g.length : Int) ∧ (↑g.length : Int) ≤ (↑g.length : Int) ∧ (↑g.length : Int) ≤ (1099511627776 : Int) ∧ (↑g.length : Int) * (↑(8 : Nat) : Int) ≤ (1099511627776 : Int) then
            J k44_l0 (s44_l0 g ((↑g.length : Int)) (0 : Int) (g) (List.replicate (↑g.length : Int).toNat (0 : Int)) (List.replicate (↑g.length : Int).toNat (0 : Int)) (List.replicate (↑g.length : Int).toNat false) ([]) (0 : Int) (List.replicate (↑g.length : Int).toNat (0 : Int)) (0 : Int))
           else
            none
          else
           none
         )
        else
         none
       ) (
        if (0 : Int) ≤ (↑g.length : Int) ∧ (↑g.length : Int) ≤ (↑g.length : Int) ∧ (↑g.length : Int) ≤ (1099511627776 : Int) ∧ (↑g.length : Int) * (↑(8 : Nat) : Int) ≤ (1099511627776 : Int) then
         meet (
          if (0 : Int) ≤ (↑g.length : Int) ∧ (↑g.length : Int) ≤ (↑g.length : Int) ∧ (↑g.length : Int) ≤ (1099511627776 : Int) ∧ (↑g.length : Int) * (↑(8 : Nat) : Int) ≤ (1099511627776 : Int) then
           if (0 : Int) ≤ (↑g.length : Int) ∧ (↑g.length : Int) ≤ (↑g.length : Int) ∧ (↑g.length : Int) ≤ (1099511627776 : Int) ∧ (↑g.length : Int) * (↑(1 : Nat) : Int) ≤ (1099511627776 : Int) then
            J k44_l0 (s44_l0 g ((↑g.length : Int)) (0 : Int) (g) (List.replicate (↑g.length : Int).toNat (0 : Int)) (List.replicate (↑g.length : Int).toNat (0 : Int)) (List.replicate (↑g.length : Int).toNat false) ([]) (0 : Int) (List.replicate (↑g.length : Int).toNat (0 : Int)) (0 : Int))
           else
            none
          else
           none
         ) (
          if (0 : Int) ≤ (↑g.length : Int) ∧ (↑g.length : Int) ≤ (↑g.length : Int) ∧ (↑g.length : Int) ≤ (1099511627776 : Int) ∧ (↑g.length : Int) * (↑(1 : Nat) : Int) ≤ (1099511627776 : Int) then
           if (0 : Int) ≤ (↑g.length : Int) ∧ (↑g.length : Int) ≤ (↑g.length : Int) ∧ (↑g.length : Int) ≤ (1099511627776 : Int) ∧ (↑g.length : Int) * (↑(8 : Nat) : Int) ≤ (1099511627776 : Int) then
            J k44_l0 (s44_l0 g ((↑g.length : Int)) (0 : Int) (g) (List.replicate (↑g.length : Int).toNat (0 : Int)) (List.replicate (↑g.length : Int).toNat (0 : Int)) (List.replicate (↑g.length : Int).toNat false) ([]) (0 : Int) (List.replicate (↑g.length : Int).toNat (0 : Int)) (0 : Int))
           else
            none
          else
           none
         )
        else
         none
       )
      )
     else
      none
    ) (
     meet (
      if (0 : Int) ≤ (↑g.length : Int) ∧ (↑g.length : Int) ≤ (↑g.length : Int) ∧ (↑g.length : Int) ≤ (1099511627776 : Int) ∧ (↑g.length : Int) * (↑(8 : Nat) : Int) ≤ (1099511627776 : Int) then
       meet (
        if (0 : Int) ≤ (↑g.length : Int) ∧ (↑g.length : Int) ≤ (↑g.length : Int) ∧ (↑g.length : Int) ≤ (1099511627776 : Int) ∧ (↑g.length : Int) * (↑(8 : Nat) : Int) ≤ (1099511627776 : Int) then
         meet (
          if (0 : Int) ≤ (↑g.length : Int) ∧ (↑g.length : Int) ≤ (↑g.length : Int) ∧ (↑g.length : Int) ≤ (1099511627776 : Int) ∧ (↑g.length : Int) * (↑(1 : Nat) : Int) ≤ (1099511627776 : Int) then
           if (0 : Int) ≤ (↑g.length : Int) ∧ (↑g.length : Int) ≤ (↑g.length : Int) ∧ (↑g.length : Int) ≤ (1099511627776 : Int) ∧ (↑g.length : Int) * (↑(8 : Nat) : Int) ≤ (1099511627776 : Int) then
            J k44_l0 (s44_l0 g ((↑g.length : Int)) (0 : Int) (g) (List.replicate (↑g.length : Int).toNat (0 : Int)) (List.replicate (↑g.length : Int).toNat (0 : Int)) (List.replicate (↑g.length : Int).toNat false) ([]) (0 : Int) (List.replicate (↑g.length : Int).toNat (0 : Int)) (0 : Int))
           else
            none
          else
           none
         ) (
          if (0 : Int) ≤ (↑g.length : Int) ∧ (↑g.length : Int) ≤ (↑g.length : Int) ∧ (↑g.length : Int) ≤ (1099511627776 : Int) ∧ (↑g.length : Int) * (↑(8 : Nat) : Int) ≤ (1099511627776 : Int) then
           if (0 : Int) ≤ (↑g.length : Int) ∧ (↑g.length : Int) ≤ (↑g.length : Int) ∧ (↑g.length : Int) ≤ (1099511627776 : Int) ∧ (↑g.length : Int) * (↑(1 : Nat) : Int) ≤ (1099511627776 : Int) then
            J k44_l0 (s44_l0 g ((↑g.length : Int)) (0 : Int) (g) (List.replicate (↑g.length : Int).toNat (0 : Int)) (List.replicate (↑g.length : Int).toNat (0 : Int)) (List.replicate (↑g.length : Int).toNat false) ([]) (0 : Int) (List.replicate (↑g.length : Int).toNat (0 : Int)) (0 : Int))
           else
            none
          else
           none
         )
        else
         none
       ) (
        meet (
         if (0 : Int) ≤ (↑g.length : Int) ∧ (↑g.length : Int) ≤ (↑g.length : Int) ∧ (↑g.length : Int) ≤ (1099511627776 : Int) ∧ (↑g.length : Int) * (↑(1 : Nat) : Int) ≤ (1099511627776 : Int) then
          meet (
           if (0 : Int) ≤ (↑g.length : Int) ∧ (↑g.length : Int) ≤ (↑g.length : Int) ∧ (↑g.length : Int) ≤ (1099511627776 : Int) ∧ (↑g.length : Int) * (↑(8 : Nat) : Int) ≤ (1099511627776 : Int) then
            if (0 : Int) ≤ (↑g.length : Int) ∧ (↑g.length : Int) ≤ (↑g.length : Int) ∧ (↑g.length : Int) ≤ (1099511627776 : Int) ∧ (↑g.length : Int) * (↑(8 : Nat) : Int) ≤ (1099511627776 : Int) then
             J k44_l0 (s44_l0 g ((↑g.length : Int)) (0 : Int) (g) (List.replicate (↑g.length : Int).toNat (0 : Int)) (List.replicate (↑g.length : Int).toNat (0 : Int)) (List.replicate (↑g.length : Int).toNat false) ([]) (0 : Int) (List.replicate (↑g.length : Int).toNat (0 : Int)) (0 : Int))
            else
             none
           else
            none
          ) (
           if (0 : Int) ≤ (↑g.length : Int) ∧ (↑g.length : Int) ≤ (↑g.length : Int) ∧ (↑g.length : Int) ≤ (1099511627776 : Int) ∧ (↑g.length : Int) * (↑(8 : Nat) : Int) ≤ (1099511627776 : Int) then
            if (0 : Int) ≤ (↑g.length : Int) ∧ (↑g.length : Int) ≤ (↑g.length : Int) ∧ (↑g.length : Int) ≤ (1099511627776 : Int) ∧ (↑g.length : Int) * (↑(8 : Nat) : Int) ≤ (1099511627776 : Int) then
             J k44_l0 (s44_l0 g ((↑g.length : Int)) (0 : Int) (g) (List.replicate (↑g.length : Int).toNat (0 : Int)) (List.replicate (↑g.length : Int).toNat (0 : Int)) (List.replicate (↑g.length : Int).toNat false) ([]) (0 : Int) (List.replicate (↑g.length : Int).toNat (0 : Int)) (0 : Int))
            else
             none
           else
            none
          )
         else
          none
        ) (
         if (0 : Int) ≤ (↑g.length : Int) ∧ (↑g.length : Int) ≤ (↑g.length : Int) ∧ (↑g.length : Int) ≤ (1099511627776 : Int) ∧ (↑g.length : Int) * (↑(8 : Nat) : Int) ≤ (1099511627776 : Int) then
          meet (
           if (0 : Int) ≤ (↑g.length : Int) ∧ (↑g.length : Int) ≤ (↑g.length : Int) ∧ (↑g.length : Int) ≤ (1099511627776 : Int) ∧ (↑g.length : Int) * (↑(8 : Nat) : Int) ≤ (1099511627776 : Int) then
            if (0 : Int) ≤ (↑g.length : Int) ∧ (↑g.length : Int) ≤ (↑g.length : Int) ∧ (↑g.length : Int) ≤ (1099511627776 : Int) ∧ (↑g.length : Int) * (↑(1 : Nat) : Int) ≤ (1099511627776 : Int) then
             J k44_l0 (s44_l0 g ((↑g.length : Int)) (0 : Int) (g) (List.replicate (↑g.length : Int).toNat (0 : Int)) (List.replicate (↑g.length : Int).toNat (0 : Int)) (List.replicate (↑g.length : Int).toNat false) ([]) (0 : Int) (List.replicate (↑g.length : Int).toNat (0 : Int)) (0 : Int))
            else
             none
           else
            none
          ) (
           if (0 : Int) ≤ (↑g.length : Int) ∧ (↑g.length : Int) ≤ (↑g.length : Int) ∧ (↑g.length : Int) ≤ (1099511627776 : Int) ∧ (↑g.length : Int) * (↑(1 : Nat) : Int) ≤ (1099511627776 : Int) then
            if (0 : Int) ≤ (↑g.length : Int) ∧ (↑g.length : Int) ≤ (↑g.length : Int) ∧ (↑g.length : Int) ≤ (1099511627776 : Int) ∧ (↑g.length : Int) * (↑(8 : Nat) : Int) ≤ (1099511627776 : Int) then
             J k44_l0 (s44_l0 g ((↑g.length : Int)) (0 : Int) (g) (List.replicate (↑g.length : Int).toNat (0 : Int)) (List.replicate (↑g.length : Int).toNat (0 : Int)) (List.replicate (↑g.length : Int).toNat false) ([]) (0 : Int) (List.replicate (↑g.length : Int).toNat (0 : Int)) (0 : Int))
            else
             none
           else
            none
          )
         else
          none
        )
       )
      else
       none
     ) (
      meet (
       if (0 : Int) ≤ (↑g.length : Int) ∧ (↑g.length : Int) ≤ (↑g.length : Int) ∧ (↑g.length : Int) ≤ (1099511627776 : Int) ∧ (↑g.length : Int) * (↑(1 : Nat) : Int) ≤ (1099511627776 : Int) then
        meet (
         if (0 : Int) ≤ (↑g.length : Int) ∧ (↑g.length : Int) ≤ (↑g.length : Int) ∧ (↑g.length : Int) ≤ (1099511627776 : Int) ∧ (↑g.length : Int) * (↑(8 : Nat) : Int) ≤ (1099511627776 : Int) then
          meet (
           if (0 : Int) ≤ (↑g.length : Int) ∧ (↑g.length : Int) ≤ (↑g.length : Int) ∧ (↑g.length : Int) ≤ (1099511627776 : Int) ∧ (↑g.length : Int) * (↑(8 : Nat) : Int) ≤ (1099511627776 : Int) then
            if (0 : Int) ≤ (↑g.length : Int) ∧ (↑g.length : Int) ≤ (↑g.length : Int) ∧ (↑g.length : Int) ≤ (1099511627776 : Int) ∧ (↑g.length : Int) * (↑(8 : Nat) : Int) ≤ (1099511627776 : Int) then
             J k44_l0 (s44_l0 g ((↑g.length : Int)) (0 : Int) (g) (List.replicate (↑g.length : Int).toNat (0 : Int)) (List.replicate (↑g.length : Int).toNat (0 : Int)) (List.replicate (↑g.length : Int).toNat false) ([]) (0 : Int) (List.replicate (↑g.length : Int).toNat (0 : Int)) (0 : Int))
            else
             none
           else
            none
          ) (
           if (0 : Int) ≤ (↑g.length : Int) ∧ (↑g.length : Int) ≤ (↑g.length : Int) ∧ (↑g.length : Int) ≤ (1099511627776 : Int) ∧ (↑g.length : Int) * (↑(8 : Nat) : Int) ≤ (1099511627776 : Int) then
            if (0 : Int) ≤ (↑g.length : Int) ∧ (↑g.length : Int) ≤ (↑g.length : Int) ∧ (↑g.length : Int) ≤ (1099511627776 : Int) ∧ (↑g.length : Int) * (↑(8 : Nat) : Int) ≤ (1099511627776 : Int) then
             J k44_l0 (s44_l0 g ((↑g.length : Int)) (0 : Int) (g) (List.replicate (↑g.length : Int).toNat (0 : Int)) (List.replicate (↑g.length : Int).toNat (0 : Int)) (List.replicate (↑g.length : Int).toNat false) ([]) (0 : Int) (List.replicate (↑g.length : Int).toNat (0 : Int)) (0 : Int))
            else
             none
           else
            none
          )
         else
          none
        ) (
         meet (
          if (0 : Int) ≤ (↑g.length : Int) ∧ (↑g.length : Int) ≤ (↑g.length : Int) ∧ (↑g.length : Int) ≤ (1099511627776 : Int) ∧ (↑g.length : Int) * (↑(8 : Nat) : Int) ≤ (1099511627776 : Int) then
           meet (
            if (0 : Int) ≤ (↑g.length : Int) ∧ (↑g.length : Int) ≤ (↑g.length : Int) ∧ (↑g.length : Int) ≤ (1099511627776 : Int) ∧ (↑g.length : Int) * (↑(8 : Nat) : Int) ≤ (1099511627776 : Int) then
             if (0 : Int) ≤ (↑g.length : Int) ∧ (↑g.length : Int) ≤ (↑g.length : Int) ∧ (↑g.length : Int) ≤ (1099511627776 : Int) ∧ (↑g.length : Int) * (↑(8 : Nat) : Int) ≤ (1099511627776 : Int) then
              J k44_l0 (s44_l0 g ((↑g.length : Int)) (0 : Int) (g) (List.replicate (↑g.length : Int).toNat (0 : Int)) (List.replicate (↑g.length : Int).toNat (0 : Int)) (List.replicate (↑g.length : Int).toNat false) ([]) (0 : Int) (List.replicate (↑g.length : Int).toNat (0 : Int)) (0 : Int))
             else
              none
            else
             none
           ) (
            if (0 : Int) ≤ (↑g.length : Int) ∧ (↑g.length : Int) ≤ (↑g.length : Int) ∧ (↑g.length : Int) ≤ (1099511627776 : Int) ∧ (↑g.length : Int) * (↑(8 : Nat) : Int) ≤ (1099511627776 : Int) then
             if (0 : Int) ≤ (↑g.length : Int) ∧ (↑g.length : Int) ≤ (↑g.length : Int) ∧ (↑g.length : Int) ≤ (1099511627776 : Int) ∧ (↑g.length : Int) * (↑(8 : Nat) : Int) ≤ (1099511627776 : Int) then
              J k44_l0 (s44_l0 g ((↑g.length : Int)) (0 : Int) (g) (List.replicate (↑g.length : Int).toNat (0 : Int)) (List.replicate (↑g.length : Int).toNat (0 : Int)) (List.replicate (↑g.length : Int).toNat false) ([]) (0 : Int) (List.replicate (↑g.length : Int).toNat (0 : Int)) (0 : Int))
             else
              none
            else
             none
           )
          else
           none
         ) (
          if (0 : Int) ≤ (↑g.length : Int) ∧ (↑g.length : Int) ≤ (↑g.length : Int) ∧ (↑g.length : Int) ≤ (1099511627776 : Int) ∧ (↑g.length : Int) * (↑(8 : Nat) : Int) ≤ (1099511627776 : Int) then
           meet (
            if (0 : Int) ≤ (↑g.length : Int) ∧ (↑g.length : Int) ≤ (↑g.length : Int) ∧ (↑g.length : Int) ≤ (1099511627776 : Int) ∧ (↑g.length : Int) * (↑(8 : Nat) : Int) ≤ (1099511627776 : Int) then
             if (0 : Int) ≤ (↑g.length : Int) ∧ (↑g.length : Int) ≤ (↑g.length : Int) ∧ (↑g.length : Int) ≤ (1099511627776 : Int) ∧ (↑g.length : Int) * (↑(8 : Nat) : Int) ≤ (1099511627776 : Int) then
              J k44_l0 (s44_l0 g ((↑g.length : Int)) (0 : Int) (g) (List.replicate (↑g.length : Int).toNat (0 : Int)) (List.replicate (↑g.length : Int).toNat (0 : Int)) (List.replicate (↑g.length : Int).toNat false) ([]) (0 : Int) (List.replicate (↑g.length : Int).toNat (0 : Int)) (0 : Int))
             else
              none
            else
             none
           ) (
            if (0 : Int) ≤ (↑g.length : Int) ∧ (↑g.length : Int) ≤ (↑g.length : Int) ∧ (↑g.length : Int) ≤ (1099511627776 : Int) ∧ (↑g.length : Int) * (↑(8 : Nat) : Int) ≤ (1099511627776 : Int) then
             if (0 : Int) ≤ (↑g.length : Int) ∧ (↑g.length : Int) ≤ (↑g.length : Int) ∧ (↑g.length : Int) ≤ (1099511627776 : Int) ∧ (↑g.length : Int) * (↑(8 : Nat) : Int) ≤ (1099511627776 : Int) then
              J k44_l0 (s44_l0 g ((↑g.length : Int)) (0 : Int) (g) (List.replicate (↑g.length : Int).toNat (0 : Int)) (List.replicate (↑g.length : Int).toNat (0 : Int)) (List.replicate (↑g.length : Int).toNat false) ([]) (0 : Int) (List.replicate (↑g.length : Int).toNat (0 : Int)) (0 : Int))
             else
              none
            else
             none
           )
          else
           none
         )
        )
       else
        none
      ) (
       if (0 : Int) ≤ (↑g.length : Int) ∧ (↑g.length : Int) ≤ (↑g.length : Int) ∧ (↑g.length : Int) ≤ (1099511627776 : Int) ∧ (↑g.length : Int) * (↑(8 : Nat) : Int) ≤ (1099511627776 : Int) then
        meet (
         if (0 : Int) ≤ (↑g.length : Int) ∧ (↑g.length : Int) ≤ (↑g.length : Int) ∧ (↑g.length : Int) ≤ (1099511627776 : Int) ∧ (↑g.length : Int) * (↑(8 : Nat) : Int) ≤ (1099511627776 : Int) then
          meet (
           if (0 : Int) ≤ (↑g.length : Int) ∧ (↑g.length : Int) ≤ (↑g.length : Int) ∧ (↑g.length : Int) ≤ (1099511627776 : Int) ∧ (↑g.length : Int) * (↑(8 : Nat) : Int) ≤ (1099511627776 : Int) then
            if (0 : Int) ≤ (↑g.length : Int) ∧ (↑g.length : Int) ≤ (↑g.length : Int) ∧ (↑g.length : Int) ≤ (1099511627776 : Int) ∧ (↑g.length : Int) * (↑(1 : Nat) : Int) ≤ (1099511627776 : Int) then
             J k44_l0 (s44_l0 g ((↑g.length : Int)) (0 : Int) (g) (List.replicate (↑g.length : Int).toNat (0 : Int)) (List.replicate (↑g.length : Int).toNat (0 : Int)) (List.replicate (↑g.length : Int).toNat false) ([]) (0 : Int) (List.replicate (↑g.length : Int).toNat (0 : Int)) (0 : Int))
            else
             none
           else
            none
          ) (
           if (0 : Int) ≤ (↑g.length : Int) ∧ (↑g.length : Int) ≤ (↑g.length : Int) ∧ (↑g.length : Int) ≤ (1099511627776 : Int) ∧ (↑g.length : Int) * (↑(1 : Nat) : Int) ≤ (1099511627776 : Int) then
            if (0 : Int) ≤ (↑g.length : Int) ∧ (↑g.length : Int) ≤ (↑g.length : Int) ∧ (↑g.length : Int) ≤ (1099511627776 : Int) ∧ (↑g.length : Int) * (↑(8 : Nat) : Int) ≤ (1099511627776 : Int) then
             J k44_l0 (s44_l0 g ((↑g.length : Int)) (0 : Int) (g) (List.replicate (↑g.length : Int).toNat (0 : Int)) (List.replicate (↑g.length : Int).toNat (0 : Int)) (List.replicate (↑g.length : Int).toNat false) ([]) (0 : Int) (List.replicate (↑g.length : Int).toNat (0 : Int)) (0 : Int))
            else
             none
           else
            none
          )
         else
          none
        ) (
         meet (
          if (0 : Int) ≤ (↑g.length : Int) ∧ (↑g.length : Int) ≤ (↑g.length : Int) ∧ (↑g.length : Int) ≤ (1099511627776 : Int) ∧ (↑g.length : Int) * (↑(8 : Nat) : Int) ≤ (1099511627776 : Int) then
           meet (
            if (0 : Int) ≤ (↑g.length : Int) ∧ (↑g.length : Int) ≤ (↑g.length : Int) ∧ (↑g.length : Int) ≤ (1099511627776 : Int) ∧ (↑g.length : Int) * (↑(8 : Nat) : Int) ≤ (1099511627776 : Int) then
             if (0 : Int) ≤ (↑g.length : Int) ∧ (↑g.length : Int) ≤ (↑g.length : Int) ∧ (↑g.length : Int) ≤ (1099511627776 : Int) ∧ (↑g.length : Int) * (↑(1 : Nat) : Int) ≤ (1099511627776 : Int) then
              J k44_l0 (s44_l0 g ((↑g.length : Int)) (0 : Int) (g) (List.replicate (↑g.length : Int).toNat (0 : Int)) (List.replicate (↑g.length : Int).toNat (0 : Int)) (List.replicate (↑g.length : Int).toNat false) ([]) (0 : Int) (List.replicate (↑g.length : Int).toNat (0 : Int)) (0 : Int))
             else
              none
            else
             none
           ) (
            if (0 : Int) ≤ (↑g.length : Int) ∧ (↑g.length : Int) ≤ (↑g.length : Int) ∧ (↑g.length : Int) ≤ (1099511627776 : Int) ∧ (↑g.length : Int) * (↑(1 : Nat) : Int) ≤ (1099511627776 : Int) then
             if (0 : Int) ≤ (↑g.length : Int) ∧ (↑g.length : Int) ≤ (↑g.length : Int) ∧ (↑g.length : Int) ≤ (1099511627776 : Int) ∧ (↑g.length : Int) * (↑(8 : Nat) : Int) ≤ (1099511627776 : Int) then
              J k44_l0 (s44_l0 g ((↑g.length : Int)) (0 : Int) (g) (List.replicate (↑g.length : Int).toNat (0 : Int)) (List.replicate (↑g.length : Int).toNat (0 : Int)) (List.replicate (↑g.length : Int).toNat false) ([]) (0 : Int) (List.replicate (↑g.length : Int).toNat (0 : Int)) (0 : Int))
             else
              none
            else
             none
           )
          else
           none
         ) (
          if (0 : Int) ≤ (↑g.length : Int) ∧ (↑g.length : Int) ≤ (↑g.length : Int) ∧ (↑g.length : Int) ≤ (1099511627776 : Int) ∧ (↑g.length : Int) * (↑(1 : Nat) : Int) ≤ (1099511627776 : Int) then
           meet (
            if (0 : Int) ≤ (↑g.length : Int) ∧ (↑g.length : Int) ≤ (↑g.length : Int) ∧ (↑g.length : Int) ≤ (1099511627776 : Int) ∧ (↑g.length : Int) * (↑(8 : Nat) : Int) ≤ (1099511627776 : Int) then
             if (0 : Int) ≤ (↑g.length : Int) ∧ (↑g.length : Int) ≤ (↑g.length : Int) ∧ (↑g.length : Int) ≤ (1099511627776 : Int) ∧ (↑g.length : Int) * (↑(8 : Nat) : Int) ≤ (1099511627776 : Int) then
              J k44_l0 (s44_l0 g ((↑g.length : Int)) (0 : Int) (g) (List.replicate (↑g.length : Int).toNat (0 : Int)) (List.replicate (↑g.length : Int).toNat (0 : Int)) (List.replicate (↑g.length : Int).toNat false) ([]) (0 : Int) (List.replicate (↑g.length : Int).toNat (0 : Int)) (0 : Int))
             else
              none
            else
             none
           ) (
            if (0 : Int) ≤ (↑g.length : Int) ∧ (↑g.length : Int) ≤ (↑g.length : Int) ∧ (↑g.length : Int) ≤ (1099511627776 : Int) ∧ (↑g.length : Int) * (↑(8 : Nat) : Int) ≤ (1099511627776 : Int) then
             if (0 : Int) ≤ (↑g.length : Int) ∧ (↑g.length : Int) ≤ (↑g.length : Int) ∧ (↑g.length : Int) ≤ (1099511627776 : Int) ∧ (↑g.length : Int) * (↑(8 : Nat) : Int) ≤ (1099511627776 : Int) then
              J k44_l0 (s44_l0 g ((↑g.length : Int)) (0 : Int) (g) (List.replicate (↑g.length : Int).toNat (0 : Int)) (List.replicate (↑g.length : Int).toNat (0 : Int)) (List.replicate (↑g.length : Int).toNat false) ([]) (0 : Int) (List.replicate (↑g.length : Int).toNat (0 : Int)) (0 : Int))
             else
              none
            else
             none
           )
          else
           none
         )
        )
       else
        none
      )
     )
    ) := by kernel_rfl
theorem e44_l0 (J : List Item → St Ty → EvR) (g : List (List Int)) (v27 : Int) (v28 : Int) (h0 : List (List Int)) (h0_1 : List Int) (h0_2 : List Int) (h0_3 : List Bool) (h0_4 : List Int) (h0_5 : Int) (h0_6 : List Int) (h0_7 : Int) : run tb C44 U44 J (R44 g) 4096 k44_l0 (s44_l0 g v27 v28 h0 h0_1 h0_2 h0_3 h0_4 h0_5 h0_6 h0_7) =
    if decide (v28 < v27) = true then
     if (0 : Int) ≤ v28 then
      if v28 < (↑h0_1.length : Int) then
       if (h0_1.getD ((0 : Nat) + v28.toNat) (0 : Int) == (0 : Int)) = true then
        if fromOk h0 h0_1 h0_2 h0_3 h0_4 h0_5 h0_6 h0_7 v28 then
         J k44_l0 (s44_l0 g (v27) (IntKind.i64.wrap (v28 + (1 : Int))) ((fromT h0 h0_1 h0_2 h0_3 h0_4 h0_5 h0_6 h0_7 v28).g) ((fromT h0 h0_1 h0_2 h0_3 h0_4 h0_5 h0_6 h0_7 v28).index) ((fromT h0 h0_1 h0_2 h0_3 h0_4 h0_5 h0_6 h0_7 v28).low) ((fromT h0 h0_1 h0_2 h0_3 h0_4 h0_5 h0_6 h0_7 v28).on_) ((fromT h0 h0_1 h0_2 h0_3 h0_4 h0_5 h0_6 h0_7 v28).stack) ((fromT h0 h0_1 h0_2 h0_3 h0_4 h0_5 h0_6 h0_7 v28).next_) ((fromT h0 h0_1 h0_2 h0_3 h0_4 h0_5 h0_6 h0_7 v28).set_) ((fromT h0 h0_1 h0_2 h0_3 h0_4 h0_5 h0_6 h0_7 v28).sets))
        else
         none
       else
        J k44_l0 (s44_l0 g (v27) (IntKind.i64.wrap (v28 + (1 : Int))) (h0) (h0_1) (h0_2) (h0_3) (h0_4) (h0_5) (h0_6) (h0_7))
      else
       none
     else
      none
    else
     J k44_j0 (s44_j0 g (h0) (h0_1) (h0_2) (h0_3) (h0_4) (h0_5) (h0_6) (h0_7)) := by kernel_rfl
theorem e44_j0 (J : List Item → St Ty → EvR) (g : List (List Int)) (h0 : List (List Int)) (h0_1 : List Int) (h0_2 : List Int) (h0_3 : List Bool) (h0_4 : List Int) (h0_5 : Int) (h0_6 : List Int) (h0_7 : Int) : run tb C44 U44 J (R44 g) 4096 k44_j0 (s44_j0 g h0 h0_1 h0_2 h0_3 h0_4 h0_5 h0_6 h0_7) =
    if (0 : Int) ≤ h0_7 ∧ h0_7 ≤ h0_7 ∧ h0_7 ≤ (1099511627776 : Int) ∧ h0_7 * (↑(24 : Nat) : Int) ≤ (1099511627776 : Int) then
     J k44_l2 (s44_l2 g ((↑h0_6.length : Int)) (0 : Int) (h0) (h0_1) (h0_2) (h0_3) (h0_4) (h0_5) (h0_6) (h0_7) (List.replicate h0_7.toNat []))
    else
     none := by kernel_rfl
theorem e44_l2 (J : List Item → St Ty → EvR) (g : List (List Int)) (v52 : Int) (v53 : Int) (h0 : List (List Int)) (h0_1 : List Int) (h0_2 : List Int) (h0_3 : List Bool) (h0_4 : List Int) (h0_5 : Int) (h0_6 : List Int) (h0_7 : Int) (h1 : List (List Int)) : run tb C44 U44 J (R44 g) 4096 k44_l2 (s44_l2 g v52 v53 h0 h0_1 h0_2 h0_3 h0_4 h0_5 h0_6 h0_7 h1) =
    if decide (v53 < v52) = true then
     if (0 : Int) ≤ v53 then
      if v53 < (↑h0_6.length : Int) then
       if (0 : Int) ≤ h0_6.getD ((0 : Nat) + v53.toNat) (0 : Int) then
        if h0_6.getD ((0 : Nat) + v53.toNat) (0 : Int) < (↑h1.length : Int) then
         if List.length (h1.getD ((0 : Nat) + Int.toNat (h0_6.getD ((0 : Nat) + v53.toNat) (0 : Int))) []) + [v53].length + (1 : Nat) ≤ (549755813888 : Nat) ∧ (List.length (h1.getD ((0 : Nat) + Int.toNat (h0_6.getD ((0 : Nat) + v53.toNat) (0 : Int))) []) + [v53].length + (1 : Nat)) * (8 : Nat) ≤ (549755813888 : Nat) then
          if (0 : Int) ≤ h0_6.getD ((0 : Nat) + v53.toNat) (0 : Int) then
           if h0_6.getD ((0 : Nat) + v53.toNat) (0 : Int) < (↑h1.length : Int) then
            if [] ++ [((0 : Nat) + Int.toNat (h0_6.getD ((0 : Nat) + v53.toNat) (0 : Int)), (0 : Nat))] = [((0 : Nat) + Int.toNat (h0_6.getD ((0 : Nat) + v53.toNat) (0 : Int)), (0 : Nat))] then
             J k44_l2 (s44_l2 g (v52) (IntKind.i64.wrap (v53 + (1 : Int))) (h0) (h0_1) (h0_2) (h0_3) (h0_4) (h0_5) (h0_6) (h0_7) (h1.set ((0 : Nat) + Int.toNat (h0_6.getD ((0 : Nat) + v53.toNat) (0 : Int))) (h1.getD ((0 : Nat) + Int.toNat (h0_6.getD ((0 : Nat) + v53.toNat) (0 : Int))) [] ++ [v53])))
            else
             none
           else
            none
          else
           none
         else
          none
        else
         none
       else
        none
      else
       none
     else
      none
    else
     J k44_j2 (s44_j2 g (h1) (h0) (h0_1) (h0_2) (h0_3) (h0_4) (h0_5) (h0_6) (h0_7)) := by kernel_rfl
theorem e44_j2 (J : List Item → St Ty → EvR) (g : List (List Int)) (v6 : List (List Int)) (h0 : List (List Int)) (h0_1 : List Int) (h0_2 : List Int) (h0_3 : List Bool) (h0_4 : List Int) (h0_5 : Int) (h0_6 : List Int) (h0_7 : Int) : run tb C44 U44 J (R44 g) 4096 k44_j2 (s44_j2 g v6 h0 h0_1 h0_2 h0_3 h0_4 h0_5 h0_6 h0_7) =
    if (0 : Int) ≤ h0_7 ∧ h0_7 ≤ h0_7 ∧ h0_7 ≤ (1099511627776 : Int) ∧ h0_7 * (↑(1 : Nat) : Int) ≤ (1099511627776 : Int) then
     J k44_l4 (s44_l4 g (v6) (h0) (h0_1) (h0_2) (h0_3) (h0_4) (h0_5) (h0_6) (h0_7) (List.replicate h0_7.toNat false) ([]))
    else
     none := by kernel_rfl
theorem e44_l4 (J : List Item → St Ty → EvR) (g : List (List Int)) (v6 : List (List Int)) (h0 : List (List Int)) (h0_1 : List Int) (h0_2 : List Int) (h0_3 : List Bool) (h0_4 : List Int) (h0_5 : Int) (h0_6 : List Int) (h0_7 : Int) (h1 : List Bool) (h2 : List (List Int)) : run tb C44 U44 J (R44 g) 4096 k44_l4 (s44_l4 g v6 h0 h0_1 h0_2 h0_3 h0_4 h0_5 h0_6 h0_7 h1 h2) =
    if decide ((↑h2.length : Int) < (↑v6.length : Int)) = true then
     J k44_l6 (s44_l6 g (v6) ((↑g.length : Int)) (0 : Int) (h0) (h0_1) (h0_2) (h0_3) (h0_4) (h0_5) (h0_6) (h0_7) (h1) (h2))
    else
     J k44_j4 (s44_j4 g (h2)) := by kernel_rfl
theorem e44_l6 (J : List Item → St Ty → EvR) (g : List (List Int)) (v6 : List (List Int)) (v80 : Int) (v81 : Int) (h0 : List (List Int)) (h0_1 : List Int) (h0_2 : List Int) (h0_3 : List Bool) (h0_4 : List Int) (h0_5 : Int) (h0_6 : List Int) (h0_7 : Int) (h1 : List Bool) (h2 : List (List Int)) : run tb C44 U44 J (R44 g) 4096 k44_l6 (s44_l6 g v6 v80 v81 h0 h0_1 h0_2 h0_3 h0_4 h0_5 h0_6 h0_7 h1 h2) =
    if decide (v81 < v80) = true then
     if (0 : Int) ≤ v81 then
      if v81 < (↑h0_6.length : Int) then
       if (0 : Int) ≤ h0_6.getD ((0 : Nat) + v81.toNat) (0 : Int) then
        if h0_6.getD ((0 : Nat) + v81.toNat) (0 : Int) < (↑h1.length : Int) then
         if (!h1.getD ((0 : Nat) + Int.toNat (h0_6.getD ((0 : Nat) + v81.toNat) (0 : Int))) false) = true then
          if (0 : Int) ≤ h0_6.getD ((0 : Nat) + v81.toNat) (0 : Int) then
           if h0_6.getD ((0 : Nat) + v81.toNat) (0 : Int) < (↑v6.length : Int) then
            if freeOk h0 h0_6 (v6.getD (Int.toNat (h0_6.getD ((0 : Nat) + v81.toNat) (0 : Int))) []) h1 then
             if freeB h0 h0_6 (v6.getD (Int.toNat (h0_6.getD ((0 : Nat) + v81.toNat) (0 : Int))) []) h1 = true then
              if (0 : Int) ≤ h0_6.getD ((0 : Nat) + v81.toNat) (0 : Int) then
               if h0_6.getD ((0 : Nat) + v81.toNat) (0 : Int) < (↑h1.length : Int) then
                if (0 : Int) ≤ h0_6.getD ((0 : Nat) + v81.toNat) (0 : Int) then
                 if h0_6.getD ((0 : Nat) + v81.toNat) (0 : Int) < (↑v6.length : Int) then
                  if h2.length + [v6.getD (Int.toNat (h0_6.getD ((0 : Nat) + v81.toNat) (0 : Int))) []].length + (1 : Nat) ≤ (549755813888 : Nat) ∧ (h2.length + [v6.getD (Int.toNat (h0_6.getD ((0 : Nat) + v81.toNat) (0 : Int))) []].length + (1 : Nat)) * (24 : Nat) ≤ (549755813888 : Nat) then
                   J k44_j6 (s44_j6 g (v6) (h0) (h0_1) (h0_2) (h0_3) (h0_4) (h0_5) (h0_6) (h0_7) (h1.set ((0 : Nat) + Int.toNat (h0_6.getD ((0 : Nat) + v81.toNat) (0 : Int))) true) (h2 ++ [v6.getD (Int.toNat (h0_6.getD ((0 : Nat) + v81.toNat) (0 : Int))) []]))
                  else
                   none
                 else
                  none
                else
                 none
               else
                none
              else
               none
             else
              J k44_l6 (s44_l6 g (v6) (v80) (IntKind.i64.wrap (v81 + (1 : Int))) (h0) (h0_1) (h0_2) (h0_3) (h0_4) (h0_5) (h0_6) (h0_7) (h1) (h2))
            else
             none
           else
            none
          else
           none
         else
          J k44_l6 (s44_l6 g (v6) (v80) (IntKind.i64.wrap (v81 + (1 : Int))) (h0) (h0_1) (h0_2) (h0_3) (h0_4) (h0_5) (h0_6) (h0_7) (h1) (h2))
        else
         none
       else
        none
      else
       none
     else
      none
    else
     J k44_j6 (s44_j6 g (v6) (h0) (h0_1) (h0_2) (h0_3) (h0_4) (h0_5) (h0_6) (h0_7) (h1) (h2)) := by kernel_rfl
theorem e44_j4 (J : List Item → St Ty → EvR) (g : List (List Int)) (h0 : List (List Int)) : run tb C44 U44 J (R44 g) 4096 k44_j4 (s44_j4 g h0) =
    some (.sl false (30) h0, [.dead]) := by kernel_rfl
theorem e44_j6 (J : List Item → St Ty → EvR) (g : List (List Int)) (v6 : List (List Int)) (h0 : List (List Int)) (h0_1 : List Int) (h0_2 : List Int) (h0_3 : List Bool) (h0_4 : List Int) (h0_5 : Int) (h0_6 : List Int) (h0_7 : Int) (h1 : List Bool) (h2 : List (List Int)) : run tb C44 U44 J (R44 g) 4096 k44_j6 (s44_j6 g v6 h0 h0_1 h0_2 h0_3 h0_4 h0_5 h0_6 h0_7 h1 h2) =
    J k44_j5 (s44_j5 g (v6) (h0) (h0_1) (h0_2) (h0_3) (h0_4) (h0_5) (h0_6) (h0_7) (h1) (h2)) := by kernel_rfl
theorem e44_j5 (J : List Item → St Ty → EvR) (g : List (List Int)) (v6 : List (List Int)) (h0 : List (List Int)) (h0_1 : List Int) (h0_2 : List Int) (h0_3 : List Bool) (h0_4 : List Int) (h0_5 : Int) (h0_6 : List Int) (h0_7 : Int) (h1 : List Bool) (h2 : List (List Int)) : run tb C44 U44 J (R44 g) 4096 k44_j5 (s44_j5 g v6 h0 h0_1 h0_2 h0_3 h0_4 h0_5 h0_6 h0_7 h1 h2) =
    J k44_l4 (s44_l4 g (v6) (h0) (h0_1) (h0_2) (h0_3) (h0_4) (h0_5) (h0_6) (h0_7) (h1) (h2)) := by kernel_rfl

theorem in44 : Entered 44 := ⟨Try.f44, b44, by kernel_rfl, by kernel_rfl, by kernel_rfl⟩
theorem fn44 (g : List (List Int)) {res : AV Ty} {outs : List (AV Ty)} (h : Ends C44 U44 (R44 g) [.code b44] ⟨slotsA (a44 g) 0 0, heapA (a44 g)⟩ (some (res, outs))) : CallOk tb Try.prog 44 (a44 g) res outs := by
  obtain ⟨n0, hn⟩ := h
  exact fn_ok (C := C44) (U := U44) (n := 0 + n0) (q := (.own 30)) tbOk good (fun f mu S h => by
    unfold C44 at h
    simp only at h
    split at h
    · cases h; exact ⟨in84, S84_ok⟩
    · cases h; exact ⟨in85, S85_ok⟩
    · cases h) mixed (fn := Try.f44) (body := b44) (by kernel_rfl) (by kernel_rfl) rfl rfl (by show 1 ≤ 117; omega) (hn 0)
theorem intL_rep (n : Nat) : List.replicate n (0 : Int) = intL (List.replicate n 0) := by simp [intL]
theorem TL.init (g : List (List Int)) : TL g (List.replicate g.length 0) (List.replicate g.length 0) (List.replicate g.length 0) (List.replicate g.length false) [] 0 0 [] := by
  have z : ∀ v, (List.replicate g.length 0).getD v 0 = 0 := fun v => by
    by_cases h : v < g.length
    · simp [List.getD_eq_getElem?_getD, h]
    · simp [List.getD_eq_getElem?_getD, List.getElem?_eq_none (show (List.replicate g.length 0).length ≤ v by simp; omega)]
  have nd : ∀ {x a}, (∀ v, x v = 0) → ¬ Dn g x [] a := fun hx h => by have := h.2.1; rw [hx] at this; omega
  refine ⟨by simp, by simp, by simp, by simp, fun v => ⟨fun h => ?_, fun h => by cases h⟩, ?_, by simp [zeros], by simp, by simp⟩
  · have : (List.replicate g.length false).getD v false = false := by
      by_cases h : v < g.length
      · simp [List.getD_eq_getElem?_getD, h]
      · simp [List.getD_eq_getElem?_getD, List.getElem?_eq_none (show (List.replicate g.length false).length ≤ v by simp; omega)]
    rw [this] at h; cases h
  · exact ⟨fun v h => (by cases h), fun v => by rw [z]; exact Nat.le_refl _, .nil, fun a b h => absurd h (nd z), fun a h => absurd h (nd z), fun a b h => absurd h (nd z), fun s h => by omega, fun p h => (by cases h), .nil, fun w h => (by cases h), fun p h => (by cases h), fun p h => (by cases h), fun p h => (by cases h), fun w h => (by cases h)⟩
theorem TL.done {g : List (List Int)} {X L E : List Nat} {O : List Bool} {n s : Nat} (h : TL g X L E O [] n s []) (hx : ∀ v, v < g.length → X.getD v 0 ≠ 0) : Done g E s := by
  have dn : ∀ a, a < g.length → Dn g (fun v => X.getD v 0) [] a := fun a ha => ⟨ha, by have := hx a ha; simp only; omega, by simp⟩
  refine ⟨h.lE, fun a ha => h.tj.es a (dn a ha), fun a b ha hb => h.tj.same a b (dn a ha) (dn b hb), fun s hs => ?_⟩
  obtain ⟨a, h1, h2⟩ := h.tj.full s hs
  exact ⟨a, h1.1, h2⟩
section
variable {g : List (List Int)}
theorem of_from (hg : smallRows g) : ∀ (m k : Nat) (X L E : List Nat) (O : List Bool) (n s : Nat), k + m = g.length → TL g X L E O [] n s [] → (∀ v, v < k → X.getD v 0 ≠ 0) →
    ∃ X' L' E' O' n' s', TL g X' L' E' O' [] n' s' [] ∧ (∀ v, v < g.length → X'.getD v 0 ≠ 0) ∧
      Goes C44 U44 (R44 g) k44_l0 (s44_l0 g g.length k g (intL X) (intL L) O [] n (intL E) s) k44_l0 (s44_l0 g g.length g.length g (intL X') (intL L') O' [] n' (intL E') s')
  | 0, k, X, L, E, O, n, s, hk, h, hx => by
    have : k = g.length := by omega
    subst this
    exact ⟨X, L, E, O, n, s, h, hx, .refl⟩
  | m + 1, k, X, L, E, O, n, s, hk, h, hx => by
    have g1 := hg.1
    have hX := h.lX
    have xl := intL_len X
    have hkl : k < g.length := by omega
    by_cases c : X.getD k 0 = 0
    · have hok : fromOk g (intL X) (intL L) O [] n (intL E) s k := ⟨X, L, E, n, s, k, rfl, rfl, rfl, rfl, rfl, rfl, rfl, hg, h, hkl, c⟩
      obtain ⟨⟨X2, L2, E2, O2, n2, s2, e, h2, hm, hr⟩, _⟩ := fromT_spec hok
      obtain ⟨X', L', E', O', n', s', k1, k2, k3⟩ := of_from hg m (k + 1) X2 L2 E2 O2 n2 s2 (by omega) h2 fun v hv => by
        rcases Nat.lt_or_ge v k with hv' | hv'
        · exact hm X rfl v (hx v hv')
        · have : v = k := by omega
          subst this
          exact hr v rfl
      refine ⟨X', L', E', O', n', s', k1, k2, Goes.trans (.step fun J => ?_) k3⟩
      rw [e44_l0]
      simp only [Int.toNat_natCast, Nat.zero_add, intL_getD]
      have c' : (((X.getD k 0 : Nat) : Int) == 0) = true := by rw [c]; rfl
      rw [c', e]
      simp (disch := first | omega | assumption | (rw [decide_eq_true_eq]; omega) | (rw [decide_eq_false_iff_not]; omega)) only [↓if_pos, ↓if_neg, if_true, if_false, wrap_up, Int.toNat_natCast, Nat.zero_add]
      rfl
    · obtain ⟨X', L', E', O', n', s', k1, k2, k3⟩ := of_from hg m (k + 1) X L E O n s (by omega) h fun v hv => by
        rcases Nat.lt_or_ge v k with hv' | hv'
        · exact hx v hv'
        · have : v = k := by omega
          subst this
          exact c
      refine ⟨X', L', E', O', n', s', k1, k2, Goes.trans (.step fun J => ?_) k3⟩
      rw [e44_l0]
      simp only [Int.toNat_natCast, Nat.zero_add, intL_getD]
      have c' : (((X.getD k 0 : Nat) : Int) == 0) = false := by rw [← Bool.not_eq_true, beq_iff_eq]; omega
      rw [c']
      simp (disch := first | omega | assumption | (rw [decide_eq_true_eq]; omega) | (rw [decide_eq_false_iff_not]; omega)) only [↓if_pos, ↓if_neg, if_true, if_false, wrap_up, Int.toNat_natCast, Nat.zero_add, Bool.false_eq_true]
      rfl
variable {X L E : List Nat} {O : List Bool} {n s : Nat} {told : List Bool} {o : List (List Nat)} {v : Nat}
theorem row_len {k i : Nat} : ((rowsAt E s k).getD i []).length ≤ k := by
  by_cases h : i < s
  · rw [rowsAt_get h, intL_len]
    exact Nat.le_trans (List.length_filter_le _ _) (by simp)
  · rw [List.getD_eq_getElem?_getD, List.getElem?_eq_none (by rw [rowsAt_len]; omega)]
    simp
theorem of_rows (hg : smallRows g) (D : Done g E s) {k : Nat} (hk : k < g.length) :
    Goes C44 U44 (R44 g) k44_l2 (s44_l2 g g.length k g (intL X) (intL L) O [] n (intL E) s (rowsAt E s k)) k44_l2 (s44_l2 g g.length (k + 1 : Nat) g (intL X) (intL L) O [] n (intL E) s (rowsAt E s (k + 1))) := .step fun J => by
  have g1 := hg.1
  have l1 := intL_len E
  have l2 := D.len
  have l3 := D.lt k hk
  have l4 := rowsAt_len E s k
  have l5 := row_len (E := E) (s := s) (k := k) (i := E.getD k 0)
  have w1 : IntKind.i64.wrap ((k : Int) + 1) = ((k + 1 : Nat) : Int) := by rw [wrap_up (by omega)]; rfl
  rw [e44_l2]
  simp only [Int.toNat_natCast, Nat.zero_add, intL_getD]
  rw [w1, ← rowsAt_step l3]
  simp (disch := first | omega | assumption | (rw [decide_eq_true_eq]; omega) | (rw [decide_eq_false_iff_not]; omega)) only [↓if_pos, ↓if_neg, if_true, if_false, wrap_up, Int.toNat_natCast, Nat.zero_add, List.nil_append, List.length_cons, List.length_nil]
theorem of_freeOk (hg : smallRows g) (D : Done g E s) (T : ToldS E s told o) (hv : v < g.length) : freeOk g (intL E) (intL (cls g v)) told := by
  have g1 := hg.1
  refine ⟨hg, by rw [intL_len, D.len], ?_, fun x hx => ?_, fun x hx => ?_⟩
  · rw [intL_len]
    have : (cls g v).length ≤ g.length := by unfold cls; exact Nat.le_trans (List.length_filter_le _ _) (by simp)
    omega
  · obtain ⟨w, hw, rfl⟩ := of_intL hx
    have := (mem_cls.1 hw).1
    omega
  · obtain ⟨w, hw, rfl⟩ := of_intL hx
    obtain ⟨i, hi, e⟩ := mem_getD 0 hw
    have := D.lt i (by rw [← D.len]; exact hi)
    rw [e] at this
    have := T.1
    omega
theorem of_skip (hg : smallRows g) (D : Done g E s) (T : ToldS E s told o) (W : Way g o) (hv : v < g.length) (hn : ¬ Ready g o v) :
    Goes C44 U44 (R44 g) k44_l6 (s44_l6 g (rowsAt E s g.length) g.length v g (intL X) (intL L) O [] n (intL E) s told (intR o)) k44_l6 (s44_l6 g (rowsAt E s g.length) g.length (v + 1 : Nat) g (intL X) (intL L) O [] n (intL E) s told (intR o)) := .step fun J => by
  have g1 := hg.1
  have l1 := intL_len E
  have l2 := D.len
  have l3 := D.lt v hv
  have l4 := rowsAt_len E s g.length
  have l5 := T.1
  have w1 : IntKind.i64.wrap ((v : Int) + 1) = ((v + 1 : Nat) : Int) := by rw [wrap_up (by omega)]; rfl
  rw [D.ready T W hv] at hn
  rw [e44_l6]
  simp only [Int.toNat_natCast, Nat.zero_add, intL_getD, D.row hv]
  rw [w1]
  by_cases c : told.getD (E.getD v 0) false = false
  · have c2 : freeB g (intL E) (intL (cls g v)) told = false := by
      classical
      unfold freeB
      exact decide_eq_false fun h => hn ⟨c, h⟩
    have c3 := of_freeOk hg D T hv
    rw [c, c2]
    simp (disch := first | omega | assumption | (rw [decide_eq_true_eq]; omega) | (rw [decide_eq_false_iff_not]; omega)) only [↓if_pos, ↓if_neg, if_true, if_false, wrap_up, Int.toNat_natCast, Nat.zero_add, Bool.not_false, Bool.false_eq_true]
  · have c : told.getD (E.getD v 0) false = true := by simpa using c
    rw [c]
    simp (disch := first | omega | assumption | (rw [decide_eq_true_eq]; omega) | (rw [decide_eq_false_iff_not]; omega)) only [↓if_pos, ↓if_neg, if_true, if_false, wrap_up, Int.toNat_natCast, Nat.zero_add, Bool.not_true, Bool.false_eq_true]
theorem of_hit (hg : smallRows g) (D : Done g E s) (T : ToldS E s told o) (W : Way g o) (hn : Next g o v) :
    Goes C44 U44 (R44 g) k44_l6 (s44_l6 g (rowsAt E s g.length) g.length v g (intL X) (intL L) O [] n (intL E) s told (intR o)) k44_l4 (s44_l4 g (rowsAt E s g.length) g (intL X) (intL L) O [] n (intL E) s (told.set (E.getD v 0) true) (intR (o ++ [cls g v]))) := by
  have hv := hn.1.1
  have g1 := hg.1
  have l1 := intL_len E
  have l2 := D.len
  have l3 := D.lt v hv
  have l4 := rowsAt_len E s g.length
  have l5 := T.1
  have l6 := intR_len o
  have l7 : o.length ≤ g.length := Nat.le_trans W.count W.len
  obtain ⟨c, c1⟩ := (D.ready T W hv).1 hn.1
  have c2 : freeB g (intL E) (intL (cls g v)) told = true := by
    classical
    unfold freeB
    exact decide_eq_true c1
  have c3 := of_freeOk hg D T hv
  refine Goes.trans (.step (k' := k44_j6) (s' := s44_j6 g (rowsAt E s g.length) g (intL X) (intL L) O [] n (intL E) s (told.set (E.getD v 0) true) (intR (o ++ [cls g v]))) fun J => ?_) (Goes.trans (.step fun J => e44_j6 J _ _ _ _ _ _ _ _ _ _ _ _) (.step fun J => e44_j5 J _ _ _ _ _ _ _ _ _ _ _ _))
  rw [e44_l6]
  simp only [Int.toNat_natCast, Nat.zero_add, intL_getD, D.row hv]
  rw [c, c2, intR_snoc]
  simp (disch := first | omega | assumption | (rw [decide_eq_true_eq]; omega) | (rw [decide_eq_false_iff_not]; omega)) only [↓if_pos, ↓if_neg, if_true, if_false, wrap_up, Int.toNat_natCast, Nat.zero_add, Bool.not_false, Bool.false_eq_true, List.length_cons, List.length_nil]
theorem of_round (hg : smallRows g) (D : Done g E s) (p : List Bool × List (List Nat)) (hp : ToldS E s p.1 p.2 ∧ Way g p.2) (hf : ¬ ¬ p.2.length < s) : ∃ q : List Bool × List (List Nat), (ToldS E s q.1 q.2 ∧ Way g q.2) ∧ s - q.2.length < s - p.2.length ∧
    Goes C44 U44 (R44 g) k44_l4 (s44_l4 g (rowsAt E s g.length) g (intL X) (intL L) O [] n (intL E) s p.1 (intR p.2)) k44_l4 (s44_l4 g (rowsAt E s g.length) g (intL X) (intL L) O [] n (intL E) s q.1 (intR q.2)) := by
  obtain ⟨T, W⟩ := hp
  have hf : p.2.length < s := Classical.not_not.1 hf
  obtain ⟨v, hv⟩ := D.next T W hf
  have T2 := D.tell T W hv
  have l4 := rowsAt_len E s g.length
  have l6 := intR_len p.2
  refine ⟨⟨_, _⟩, ⟨T2, .snoc W hv⟩, by simp only [List.length_append, List.length_cons, List.length_nil]; omega, Goes.trans (.step (k' := k44_l6) (s' := s44_l6 g (rowsAt E s g.length) g.length (0 : Nat) g (intL X) (intL L) O [] n (intL E) s p.1 (intR p.2)) fun J => ?_) (Goes.trans (Goes.upto (fun k => s44_l6 g (rowsAt E s g.length) g.length k g (intL X) (intL L) O [] n (intL E) s p.1 (intR p.2)) v (fun k hk => of_skip hg D T W (by have := hv.1.1; omega) (hv.2 k hk)) v (Nat.le_refl _)) (of_hit hg D T W hv))⟩
  rw [e44_l4]
  simp (disch := first | omega | assumption | (rw [decide_eq_true_eq]; omega) | (rw [decide_eq_false_iff_not]; omega)) only [↓if_pos, ↓if_neg, if_true, if_false, wrap_up, Int.toNat_natCast, Nat.zero_add]
  rfl
end
theorem of_ok (g : List (List Int)) (hg : smallRows g) : CallOk tb Try.prog 44 (a44 g) (.sl false 30 (setsI g)) [.dead] := by
  have g1 := hg.1
  obtain ⟨X, L, E, O, n, s, t1, t2, t3⟩ := of_from hg g.length 0 _ _ _ _ _ _ (Nat.zero_add _) (TL.init g) fun v hv => by omega
  have D := t1.done t2
  have hs : s ≤ g.length := by
    have := t1.cs
    have := t1.cnt
    omega
  obtain ⟨⟨told, o⟩, ⟨h1, h1'⟩, h2, h3⟩ := Goes.loop (C := C44) (U := U44) (Rt := R44 g) (k := k44_l4) (fun p : List Bool × List (List Nat) => s44_l4 g (rowsAt E s g.length) g (intL X) (intL L) O [] n (intL E) s p.1 (intR p.2)) (fun p => ToldS E s p.1 p.2 ∧ Way g p.2) (fun p => ¬ p.2.length < s) (fun p => s - p.2.length) (fun p hp hf => of_round hg D p hp hf) _ (List.replicate s false, []) (Nat.lt_succ_self _) ⟨.init E s, .nil⟩
  have e := D.end h1 h1' h2
  simp only at e
  subst e
  have l1 := intL_len E
  have l2 := D.len
  have l4 := rowsAt_len E s g.length
  have l6 : (intR (setsN g)).length = (setsN g).length := intR_len _
  refine fn44 g (Goes.ends (.step (k' := k44_l0) (s' := s44_l0 g g.length (0 : Nat) g (intL (List.replicate g.length 0)) (intL (List.replicate g.length 0)) (List.replicate g.length false) [] (0 : Nat) (intL (List.replicate g.length 0)) (0 : Nat)) fun J => ?_) (Goes.ends t3 (Goes.ends (.step (k' := k44_j0) (s' := s44_j0 g g (intL X) (intL L) O [] n (intL E) s) fun J => ?_) (Goes.ends (.step (k' := k44_l2) (s' := s44_l2 g g.length (0 : Nat) g (intL X) (intL L) O [] n (intL E) s (rowsAt E s 0)) fun J => ?_) (Goes.ends (Goes.upto (fun k => s44_l2 g g.length k g (intL X) (intL L) O [] n (intL E) s (rowsAt E s k)) g.length (fun k hk => of_rows hg D hk) g.length (Nat.le_refl _)) (Goes.ends (.step (k' := k44_j2) (s' := s44_j2 g (rowsAt E s g.length) g (intL X) (intL L) O [] n (intL E) s) fun J => ?_) (Goes.ends (.step (k' := k44_l4) (s' := s44_l4 g (rowsAt E s g.length) g (intL X) (intL L) O [] n (intL E) s (List.replicate s false) (intR [])) fun J => ?_) (Goes.ends h3 (Goes.ends (.step (k' := k44_j4) (s' := s44_j4 g (setsI g)) fun J => ?_) (.step fun J => e44_j4 J _ _))))))))))
  · have c1 : (0 : Int) ≤ (↑g.length : Int) ∧ (↑g.length : Int) ≤ (↑g.length : Int) ∧ (↑g.length : Int) ≤ (1099511627776 : Int) ∧ (↑g.length : Int) * (↑(8 : Nat) : Int) ≤ (1099511627776 : Int) := by omega
    have c2 : (0 : Int) ≤ (↑g.length : Int) ∧ (↑g.length : Int) ≤ (↑g.length : Int) ∧ (↑g.length : Int) ≤ (1099511627776 : Int) ∧ (↑g.length : Int) * (↑(1 : Nat) : Int) ≤ (1099511627776 : Int) := by omega
    rw [e44]
    simp only [if_pos c1, if_pos c2, meet_self, Int.toNat_natCast, intL_rep]
    rfl
  · rw [e44_l0]
    simp (disch := first | omega | assumption | (rw [decide_eq_true_eq]; omega) | (rw [decide_eq_false_iff_not]; omega)) only [↓if_pos, ↓if_neg, if_true, if_false, wrap_up, Int.toNat_natCast, Nat.zero_add]
  · rw [e44_j0, Int.toNat_natCast, rowsAt_zero, l1, l2]
    simp (disch := first | omega | assumption | (rw [decide_eq_true_eq]; omega) | (rw [decide_eq_false_iff_not]; omega)) only [↓if_pos, ↓if_neg, if_true, if_false, wrap_up, Int.toNat_natCast, Nat.zero_add]
    rfl
  · rw [e44_l2]
    simp (disch := first | omega | assumption | (rw [decide_eq_true_eq]; omega) | (rw [decide_eq_false_iff_not]; omega)) only [↓if_pos, ↓if_neg, if_true, if_false, wrap_up, Int.toNat_natCast, Nat.zero_add]
  · rw [e44_j2, Int.toNat_natCast]
    simp (disch := first | omega | assumption | (rw [decide_eq_true_eq]; omega) | (rw [decide_eq_false_iff_not]; omega)) only [↓if_pos, ↓if_neg, if_true, if_false, wrap_up, Int.toNat_natCast, Nat.zero_add]
    rfl
  · rw [e44_l4, l6, l4]
    have : ¬ (setsN g).length < s := h2
    simp (disch := first | omega | assumption | (rw [decide_eq_true_eq]; omega) | (rw [decide_eq_false_iff_not]; omega)) only [↓if_pos, ↓if_neg, if_true, if_false, wrap_up, Int.toNat_natCast, Nat.zero_add]
    rfl
noncomputable def S44 : List (AV Ty) → T (AV Ty × List (AV Ty))
  | [.sl false 30 g] => .ite (smallRows g) (smallRows.dec g) (.ret (.sl false 30 (setsI g), [.dead])) .fail
  | _ => .fail
theorem S44_ok (l : List (AV Ty)) (r : AV Ty) (outs : List (AV Ty)) (h : (S44 l).val = some (r, outs)) : CallOk tb Try.prog 44 l r outs := by
  unfold S44 at h
  split at h
  · rcases ite_val h with ⟨e, h⟩ | ⟨_, h⟩
    · cases h; exact of_ok _ e
    · cases h
  · cases h
end Go.Proofs.Ytggibjbcbicpjaa.Ev
