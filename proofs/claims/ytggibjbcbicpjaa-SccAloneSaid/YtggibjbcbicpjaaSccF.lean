/- scc.tarjan.from: all nodes that one leads to. -/
import Derived.Test.YtggibjbcbicpjaaSccT
import Derived.Test.YtggibjbcbicpjaaSccE
namespace Go.Proofs.Ytggibjbcbicpjaa.Ev
open Go
set_option linter.unusedVariables false
set_option linter.unusedSimpArgs false
noncomputable def b84 : Code := bodyOf Try.f84
noncomputable def C84 : Cfg Ty := ⟨fun
  | 132 => some ([true], S132)
  | 133 => some ([true], S133)
  | _ => none, fun _ => false, 181, 1⟩
def U84 : Cuts := ⟨fun
  | 0 => some []
  | 1 => some [(0, none), (4, some 142)]
  | 2 => some [(0, none), (4, some 142), (5, none)]
  | 3 => some [(0, none), (4, some 142), (5, none)]
  | _ => none, fun
  | 0 => some [(0, none), (4, some 142)]
  | 2 => some [(0, none), (4, some 142), (5, none)]
  | _ => none, fun _ => none⟩
/-- join 0: live:  -/
noncomputable def k84_j0 : List Item := [.inScope (inC b84)]
/-- loop 0: live: 0, 4 -/
noncomputable def k84_l0 : List Item := [.code (inC (inC (sndC (sndC (sndC (inC b84)))))), .inLoop (inC (inC (sndC (sndC (sndC (inC b84)))))), .inBlock 0, .inScope (inC b84)]
/-- join 1: live: 0, 4 -/
noncomputable def k84_j1 : List Item := [.inLoop (inC (inC (sndC (sndC (sndC (inC b84)))))), .inBlock 0, .inScope (inC b84)]
/-- join 2: live: 0, 4, 5 -/
noncomputable def k84_j2 : List Item := [.code (sndC (sndC (inC (sndC (inC (inC (sndC (sndC (sndC (inC b84)))))))))), .inBlock 1, .inLoop (inC (inC (sndC (sndC (sndC (inC b84)))))), .inBlock 0, .inScope (inC b84)]
/-- loop 2: live: 0, 4, 5 -/
noncomputable def k84_l2 : List Item := [.code (inC (inC (fstC (sndC (inC (sndC (inC (inC (sndC (sndC (sndC (inC b84)))))))))))), .inLoop (inC (inC (fstC (sndC (inC (sndC (inC (inC (sndC (sndC (sndC (inC b84)))))))))))), .inBlock 2, .code (sndC (sndC (inC (sndC (inC (inC (sndC (sndC (sndC (inC b84)))))))))), .inBlock 1, .inLoop (inC (inC (sndC (sndC (sndC (inC b84)))))), .inBlock 0, .inScope (inC b84)]
/-- join 3: live: 0, 4, 5 -/
noncomputable def k84_j3 : List Item := [.inLoop (inC (inC (fstC (sndC (inC (sndC (inC (inC (sndC (sndC (sndC (inC b84)))))))))))), .inBlock 2, .code (sndC (sndC (inC (sndC (inC (inC (sndC (sndC (sndC (inC b84)))))))))), .inBlock 1, .inLoop (inC (inC (sndC (sndC (sndC (inC b84)))))), .inBlock 0, .inScope (inC b84)]
def a84 (g : List (List Int)) (ix : List Int) (lw : List Int) (on : List Bool) (st : List Int) (nx : Int) (se : List Int) (sn : Int) (v : Int) : List (AV Ty) := [.box true (104 : Nat) (Tarjan.mk g ix lw on st nx se sn), .v (.int .i64 v)]
noncomputable def R84 (g : List (List Int)) (ix : List Int) (lw : List Int) (on : List Bool) (st : List Int) (nx : Int) (se : List Int) (sn : Int) (v : Int) : St Ty → EvR := resT tb C84 Try.f84.results.toList .keep (a84 g ix lw on st nx se sn v)
def s84_l0 (g : List (List Int)) (ix : List Int) (lw : List Int) (on : List Bool) (st : List Int) (nx : Int) (se : List Int) (sn : Int) (v : Int) (h0 : List (List Int)) (h0_1 : List Int) (h0_2 : List Int) (h0_3 : List Bool) (h0_4 : List Int) (h0_5 : Int) (h0_6 : List Int) (h0_7 : Int) (h1 : List Step) : St Ty := St.mk [(0, .ptr (0) [] (0) (0)), (4, .ref (1) [] none false)] [some (Root.mk (104) true [Tarjan.mk h0 h0_1 h0_2 h0_3 h0_4 h0_5 h0_6 h0_7]), some (Root.mk (142) false h1)]
def s84_l2 (g : List (List Int)) (ix : List Int) (lw : List Int) (on : List Bool) (st : List Int) (nx : Int) (se : List Int) (sn : Int) (v : Int) (v5 : Nat) (h0 : List (List Int)) (h0_1 : List Int) (h0_2 : List Int) (h0_3 : List Bool) (h0_4 : List Int) (h0_5 : Int) (h0_6 : List Int) (h0_7 : Int) (h1 : List Step) : St Ty := St.mk [(0, .ptr (0) [] (0) (0)), (4, .ref (1) [] none false), (5, .ptr (1) [] v5 (0))] [some (Root.mk (104) true [Tarjan.mk h0 h0_1 h0_2 h0_3 h0_4 h0_5 h0_6 h0_7]), some (Root.mk (142) false h1)]
def s84_j0 (g : List (List Int)) (ix : List Int) (lw : List Int) (on : List Bool) (st : List Int) (nx : Int) (se : List Int) (sn : Int) (v : Int) (h0 : List (List Int)) (h0_1 : List Int) (h0_2 : List Int) (h0_3 : List Bool) (h0_4 : List Int) (h0_5 : Int) (h0_6 : List Int) (h0_7 : Int) : St Ty := St.mk [] [some (Root.mk (104) true [Tarjan.mk h0 h0_1 h0_2 h0_3 h0_4 h0_5 h0_6 h0_7])]
def s84_j3 (g : List (List Int)) (ix : List Int) (lw : List Int) (on : List Bool) (st : List Int) (nx : Int) (se : List Int) (sn : Int) (v : Int) (v5 : Nat) (h0 : List (List Int)) (h0_1 : List Int) (h0_2 : List Int) (h0_3 : List Bool) (h0_4 : List Int) (h0_5 : Int) (h0_6 : List Int) (h0_7 : Int) (h1 : List Step) : St Ty := St.mk [(0, .ptr (0) [] (0) (0)), (4, .ref (1) [] none false), (5, .ptr (1) [] v5 (0))] [some (Root.mk (104) true [Tarjan.mk h0 h0_1 h0_2 h0_3 h0_4 h0_5 h0_6 h0_7]), some (Root.mk (142) false h1)]
def s84_j1 (g : List (List Int)) (ix : List Int) (lw : List Int) (on : List Bool) (st : List Int) (nx : Int) (se : List Int) (sn : Int) (v : Int) (h0 : List (List Int)) (h0_1 : List Int) (h0_2 : List Int) (h0_3 : List Bool) (h0_4 : List Int) (h0_5 : Int) (h0_6 : List Int) (h0_7 : Int) (h1 : List Step) : St Ty := St.mk [(0, .ptr (0) [] (0) (0)), (4, .ref (1) [] none false)] [some (Root.mk (104) true [Tarjan.mk h0 h0_1 h0_2 h0_3 h0_4 h0_5 h0_6 h0_7]), some (Root.mk (142) false h1)]
def s84_j2 (g : List (List Int)) (ix : List Int) (lw : List Int) (on : List Bool) (st : List Int) (nx : Int) (se : List Int) (sn : Int) (v : Int) (v5 : Nat) (h0 : List (List Int)) (h0_1 : List Int) (h0_2 : List Int) (h0_3 : List Bool) (h0_4 : List Int) (h0_5 : Int) (h0_6 : List Int) (h0_7 : Int) (h1 : List Step) : St Ty := St.mk [(0, .ptr (0) [] (0) (0)), (4, .ref (1) [] none false), (5, .ptr (1) [] v5 (0))] [some (Root.mk (104) true [Tarjan.mk h0 h0_1 h0_2 h0_3 h0_4 h0_5 h0_6 h0_7]), some (Root.mk (142) false h1)]
theorem e84 (J : List Item → St Ty → EvR) (g : List (List Int)) (ix : List Int) (lw : List Int) (on : List Bool) (st : List Int) (nx : Int) (se : List Int) (sn : Int) (v : Int) : run tb C84 U84 J (R84 g ix lw on st nx se sn v) 4096 [.code b84] ⟨slotsA (a84 g ix lw on st nx se sn v) 0 0, heapA (a84 g ix lw on st nx se sn v)⟩ =
    if openOk ix lw on st nx v then
     J k84_l0 (s84_l0 g ix lw on st nx se sn v (g) (ix.set v.toNat (nx + (1 : Int))) (lw.set v.toNat (nx + (1 : Int))) (on.set v.toNat true) (st ++ [v]) (nx + (1 : Int)) (se) (sn) ([Step.mk v (0 : Int)]))
    else
     none := by kernel_rfl
theorem e84_l0 (J : List Item → St Ty → EvR) (g : List (List Int)) (ix : List Int) (lw : List Int) (on : List Bool) (st : List Int) (nx : Int) (se : List Int) (sn : Int) (v : Int) (h0 : List (List Int)) (h0_1 : List Int) (h0_2 : List Int) (h0_3 : List Bool) (h0_4 : List Int) (h0_5 : Int) (h0_6 : List Int) (h0_7 : Int) (h1 : List Step) : run tb C84 U84 J (R84 g ix lw on st nx se sn v) 4096 k84_l0 (s84_l0 g ix lw on st nx se sn v h0 h0_1 h0_2 h0_3 h0_4 h0_5 h0_6 h0_7 h1) =
    if decide ((↑h1.length : Int) > (0 : Int)) = true then
     if (0 : Int) ≤ IntKind.i64.wrap ((↑h1.length : Int) - (1 : Int)) then
      if IntKind.i64.wrap ((↑h1.length : Int) - (1 : Int)) < (↑h1.length : Int) then
       J k84_l2 (s84_l2 g ix lw on st nx se sn v ((0 : Nat) + (IntKind.i64.wrap ((↑h1.length : Int) - (1 : Int))).toNat) (h0) (h0_1) (h0_2) (h0_3) (h0_4) (h0_5) (h0_6) (h0_7) (h1))
      else
       none
     else
      none
    else
     J k84_j0 (s84_j0 g ix lw on st nx se sn v (h0) (h0_1) (h0_2) (h0_3) (h0_4) (h0_5) (h0_6) (h0_7)) := by kernel_rfl
theorem e84_l2 (J : List Item → St Ty → EvR) (g : List (List Int)) (ix : List Int) (lw : List Int) (on : List Bool) (st : List Int) (nx : Int) (se : List Int) (sn : Int) (v : Int) (v5 : Nat) (h0 : List (List Int)) (h0_1 : List Int) (h0_2 : List Int) (h0_3 : List Bool) (h0_4 : List Int) (h0_5 : Int) (h0_6 : List Int) (h0_7 : Int) (h1 : List Step) : run tb C84 U84 J (R84 g ix lw on st nx se sn v) 4096 k84_l2 (s84_l2 g ix lw on st nx se sn v v5 h0 h0_1 h0_2 h0_3 h0_4 h0_5 h0_6 h0_7 h1) =
    if (0 : Int) ≤ (h1.getD v5 (Step.mk (0 : Int) (0 : Int))).v_ then
     if (h1.getD v5 (Step.mk (0 : Int) (0 : Int))).v_ < (↑h0.length : Int) then
      if decide ((h1.getD v5 (Step.mk (0 : Int) (0 : Int))).k < (↑(List.length (h0.getD (h1.getD v5 (Step.mk (0 : Int) (0 : Int))).v_.toNat [])) : Int)) = true then
       if (0 : Int) ≤ (h1.getD v5 (Step.mk (0 : Int) (0 : Int))).v_ then
        if (h1.getD v5 (Step.mk (0 : Int) (0 : Int))).v_ < (↑h0.length : Int) then
         if (0 : Int) ≤ (h1.getD v5 (Step.mk (0 : Int) (0 : Int))).k then
          if (h1.getD v5 (Step.mk (0 : Int) (0 : Int))).k < (↑(List.length (h0.getD (h1.getD v5 (Step.mk (0 : Int) (0 : Int))).v_.toNat [])) : Int) then
           if decide (List.getD (h0.getD (h1.getD v5 (Step.mk (0 : Int) (0 : Int))).v_.toNat []) (h1.getD v5 (Step.mk (0 : Int) (0 : Int))).k.toNat (0 : Int) < (0 : Int)) = false then
            if decide (List.getD (h0.getD (h1.getD v5 (Step.mk (0 : Int) (0 : Int))).v_.toNat []) (h1.getD v5 (Step.mk (0 : Int) (0 : Int))).k.toNat (0 : Int) ≥ (↑h0.length : Int)) = true then
             J k84_j3 (s84_j3 g ix lw on st nx se sn v (v5) (h0) (h0_1) (h0_2) (h0_3) (h0_4) (h0_5) (h0_6) (h0_7) (h1.set v5 (Step.mk (h1.getD v5 (Step.mk (0 : Int) (0 : Int))).v_ (IntKind.i64.wrap ((h1.getD v5 (Step.mk (0 : Int) (0 : Int))).k + (1 : Int))))))
            else
             if (0 : Int) ≤ List.getD (h0.getD (h1.getD v5 (Step.mk (0 : Int) (0 : Int))).v_.toNat []) (h1.getD v5 (Step.mk (0 : Int) (0 : Int))).k.toNat (0 : Int) then
              if List.getD (h0.getD (h1.getD v5 (Step.mk (0 : Int) (0 : Int))).v_.toNat []) (h1.getD v5 (Step.mk (0 : Int) (0 : Int))).k.toNat (0 : Int) < (↑h0_1.length : Int) then
               if (h0_1.getD ((0 : Nat) + Int.toNat (List.getD (h0.getD (h1.getD v5 (Step.mk (0 : Int) (0 : Int))).v_.toNat []) (h1.getD v5 (Step.mk (0 : Int) (0 : Int))).k.toNat (0 : Int))) (0 : Int) == (0 : Int)) = true then
                if openOk h0_1 h0_2 h0_3 h0_4 h0_5 (List.getD (h0.getD (h1.getD v5 (Step.mk (0 : Int) (0 : Int))).v_.toNat []) (h1.getD v5 (Step.mk (0 : Int) (0 : Int))).k.toNat (0 : Int)) then
                 if (h1.set v5 (Step.mk (h1.getD v5 (Step.mk (0 : Int) (0 : Int))).v_ (IntKind.i64.wrap ((h1.getD v5 (Step.mk (0 : Int) (0 : Int))).k + (1 : Int))))).length + [Step.mk (List.getD (h0.getD (h1.getD v5 (Step.mk (0 : Int) (0 : Int))).v_.toNat []) (h1.getD v5 (Step.mk (0 : Int) (0 : Int))).k.toNat (0 : Int)) (0 : Int)].length + (1 : Nat) ≤ (549755813888 : Nat) ∧ ((h1.set v5 (Step.mk (h1.getD v5 (Step.mk (0 : Int) (0 : Int))).v_ (IntKind.i64.wrap ((h1.getD v5 (Step.mk (0 : Int) (0 : Int))).k + (1 : Int))))).length + [Step.mk (List.getD (h0.getD (h1.getD v5 (Step.mk (0 : Int) (0 : Int))).v_.toNat []) (h1.getD v5 (Step.mk (0 : Int) (0 : Int))).k.toNat (0 : Int)) (0 : Int)].length + (1 : Nat)) * (16 : Nat) ≤ (549755813888 : Nat) then
                  J k84_j1 (s84_j1 g ix lw on st nx se sn v (h0) (h0_1.set (Int.toNat (List.getD (h0.getD (h1.getD v5 (Step.mk (0 : Int) (0 : Int))).v_.toNat []) (h1.getD v5 (Step.mk (0 : Int) (0 : Int))).k.toNat (0 : Int))) (h0_5 + (1 : Int))) (h0_2.set (Int.toNat (List.getD (h0.getD (h1.getD v5 (Step.mk (0 : Int) (0 : Int))).v_.toNat []) (h1.getD v5 (Step.mk (0 : Int) (0 : Int))).k.toNat (0 : Int))) (h0_5 + (1 : Int))) (h0_3.set (Int.toNat (List.getD (h0.getD (h1.getD v5 (Step.mk (0 : Int) (0 : Int))).v_.toNat []) (h1.getD v5 (Step.mk (0 : Int) (0 : Int))).k.toNat (0 : Int))) true) (h0_4 ++ [List.getD (h0.getD (h1.getD v5 (Step.mk (0 : Int) (0 : Int))).v_.toNat []) (h1.getD v5 (Step.mk (0 : Int) (0 : Int))).k.toNat (0 : Int)]) (h0_5 + (1 : Int)) (h0_6) (h0_7) (h1.set v5 (Step.mk (h1.getD v5 (Step.mk (0 : Int) (0 : Int))).v_ (IntKind.i64.wrap ((h1.getD v5 (Step.mk (0 : Int) (0 : Int))).k + (1 : Int)))) ++ [Step.mk (List.getD (h0.getD (h1.getD v5 (Step.mk (0 : Int) (0 : Int))).v_.toNat []) (h1.getD v5 (Step.mk (0 : Int) (0 : Int))).k.toNat (0 : Int)) (0 : Int)]))
                 else
                  none
                else
                 none
               else
                if (0 : Int) ≤ List.getD (h0.getD (h1.getD v5 (Step.mk (0 : Int) (0 : Int))).v_.toNat []) (h1.getD v5 (Step.mk (0 : Int) (0 : Int))).k.toNat (0 : Int) then
                 if List.getD (h0.getD (h1.getD v5 (Step.mk (0 : Int) (0 : Int))).v_.toNat []) (h1.getD v5 (Step.mk (0 : Int) (0 : Int))).k.toNat (0 : Int) < (↑h0_3.length : Int) then
                  if h0_3.getD ((0 : Nat) + Int.toNat (List.getD (h0.getD (h1.getD v5 (Step.mk (0 : Int) (0 : Int))).v_.toNat []) (h1.getD v5 (Step.mk (0 : Int) (0 : Int))).k.toNat (0 : Int))) false = true then
                   if (0 : Int) ≤ ((h1.set v5 (Step.mk (h1.getD v5 (Step.mk (0 : Int) (0 : Int))).v_ (IntKind.i64.wrap ((h1.getD v5 (Step.mk (0 : Int) (0 : Int))).k + (1 : Int))))).getD v5 (Step.mk (0 : Int) (0 : Int))).v_ then
                    if ((h1.set v5 (Step.mk (h1.getD v5 (Step.mk (0 : Int) (0 : Int))).v_ (IntKind.i64.wrap ((h1.getD v5 (Step.mk (0 : Int) (0 : Int))).k + (1 : Int))))).getD v5 (Step.mk (0 : Int) (0 : Int))).v_ < (↑h0_2.length : Int) then
                     if (0 : Int) ≤ List.getD (h0.getD (h1.getD v5 (Step.mk (0 : Int) (0 : Int))).v_.toNat []) (h1.getD v5 (Step.mk (0 : Int) (0 : Int))).k.toNat (0 : Int) then
                      if List.getD (h0.getD (h1.getD v5 (Step.mk (0 : Int) (0 : Int))).v_.toNat []) (h1.getD v5 (Step.mk (0 : Int) (0 : Int))).k.toNat (0 : Int) < (↑h0_1.length : Int) then
                       if (0 : Int) ≤ ((h1.set v5 (Step.mk (h1.getD v5 (Step.mk (0 : Int) (0 : Int))).v_ (IntKind.i64.wrap ((h1.getD v5 (Step.mk (0 : Int) (0 : Int))).k + (1 : Int))))).getD v5 (Step.mk (0 : Int) (0 : Int))).v_ then
                        if ((h1.set v5 (Step.mk (h1.getD v5 (Step.mk (0 : Int) (0 : Int))).v_ (IntKind.i64.wrap ((h1.getD v5 (Step.mk (0 : Int) (0 : Int))).k + (1 : Int))))).getD v5 (Step.mk (0 : Int) (0 : Int))).v_ < (↑h0_2.length : Int) then
                         J k84_j3 (s84_j3 g ix lw on st nx se sn v (v5) (h0) (h0_1) (h0_2.set ((0 : Nat) + ((h1.set v5 (Step.mk (h1.getD v5 (Step.mk (0 : Int) (0 : Int))).v_ (IntKind.i64.wrap ((h1.getD v5 (Step.mk (0 : Int) (0 : Int))).k + (1 : Int))))).getD v5 (Step.mk (0 : Int) (0 : Int))).v_.toNat) (if h0_1.getD ((0 : Nat) + Int.toNat (List.getD (h0.getD (h1.getD v5 (Step.mk (0 : Int) (0 : Int))).v_.toNat []) (h1.getD v5 (Step.mk (0 : Int) (0 : Int))).k.toNat (0 : Int))) (0 : Int) < h0_2.getD ((0 : Nat) + ((h1.set v5 (Step.mk (h1.getD v5 (Step.mk (0 : Int) (0 : Int))).v_ (IntKind.i64.wrap ((h1.getD v5 (Step.mk (0 : Int) (0 : Int))).k + (1 : Int))))).getD v5 (Step.mk (0 : Int) (0 : Int))).v_.toNat) (0 : Int) then h0_1.getD ((0 : Nat) + Int.toNat (List.getD (h0.getD (h1.getD v5 (Step.mk (0 : Int) (0 : Int))).v_.toNat []) (h1.getD v5 (Step.mk (0 : Int) (0 : Int))).k.toNat (0 : Int))) (0 : Int) else h0_2.getD ((0 : Nat) + ((h1.set v5 (Step.mk (h1.getD v5 (Step.mk (0 : Int) (0 : Int))).v_ (IntKind.i64.wrap ((h1.getD v5 (Step.mk (0 : Int) (0 : Int))).k + (1 : Int))))).getD v5 (Step.mk (0 : Int) (0 : Int))).v_.toNat) (0 : Int))) (h0_3) (h0_4) (h0_5) (h0_6) (h0_7) (h1.set v5 (Step.mk (h1.getD v5 (Step.mk (0 : Int) (0 : Int))).v_ (IntKind.i64.wrap ((h1.getD v5 (Step.mk (0 : Int) (0 : Int))).k + (1 : Int))))))
                        else
                         none
                       else
                        none
                      else
                       none
                     else
                      none
                    else
                     none
                   else
                    none
                  else
                   J k84_j3 (s84_j3 g ix lw on st nx se sn v (v5) (h0) (h0_1) (h0_2) (h0_3) (h0_4) (h0_5) (h0_6) (h0_7) (h1.set v5 (Step.mk (h1.getD v5 (Step.mk (0 : Int) (0 : Int))).v_ (IntKind.i64.wrap ((h1.getD v5 (Step.mk (0 : Int) (0 : Int))).k + (1 : Int))))))
                 else
                  none
                else
                 none
              else
               none
             else
              none
           else
            J k84_j3 (s84_j3 g ix lw on st nx se sn v (v5) (h0) (h0_1) (h0_2) (h0_3) (h0_4) (h0_5) (h0_6) (h0_7) (h1.set v5 (Step.mk (h1.getD v5 (Step.mk (0 : Int) (0 : Int))).v_ (IntKind.i64.wrap ((h1.getD v5 (Step.mk (0 : Int) (0 : Int))).k + (1 : Int))))))
          else
           none
         else
          none
        else
         none
       else
        none
      else
       J k84_j2 (s84_j2 g ix lw on st nx se sn v (v5) (h0) (h0_1) (h0_2) (h0_3) (h0_4) (h0_5) (h0_6) (h0_7) (h1))
     else
      none
    else
     none := by kernel_rfl
theorem e84_j0 (J : List Item → St Ty → EvR) (g : List (List Int)) (ix : List Int) (lw : List Int) (on : List Bool) (st : List Int) (nx : Int) (se : List Int) (sn : Int) (v : Int) (h0 : List (List Int)) (h0_1 : List Int) (h0_2 : List Int) (h0_3 : List Bool) (h0_4 : List Int) (h0_5 : Int) (h0_6 : List Int) (h0_7 : Int) : run tb C84 U84 J (R84 g ix lw on st nx se sn v) 4096 k84_j0 (s84_j0 g ix lw on st nx se sn v h0 h0_1 h0_2 h0_3 h0_4 h0_5 h0_6 h0_7) =
    some (.tup [], [.box true (104) (Tarjan.mk h0 h0_1 h0_2 h0_3 h0_4 h0_5 h0_6 h0_7), .dead]) := by kernel_rfl
theorem e84_j3 (J : List Item → St Ty → EvR) (g : List (List Int)) (ix : List Int) (lw : List Int) (on : List Bool) (st : List Int) (nx : Int) (se : List Int) (sn : Int) (v : Int) (v5 : Nat) (h0 : List (List Int)) (h0_1 : List Int) (h0_2 : List Int) (h0_3 : List Bool) (h0_4 : List Int) (h0_5 : Int) (h0_6 : List Int) (h0_7 : Int) (h1 : List Step) : run tb C84 U84 J (R84 g ix lw on st nx se sn v) 4096 k84_j3 (s84_j3 g ix lw on st nx se sn v v5 h0 h0_1 h0_2 h0_3 h0_4 h0_5 h0_6 h0_7 h1) =
    J k84_l2 (s84_l2 g ix lw on st nx se sn v (v5) (h0) (h0_1) (h0_2) (h0_3) (h0_4) (h0_5) (h0_6) (h0_7) (h1)) := by kernel_rfl
theorem e84_j1 (J : List Item → St Ty → EvR) (g : List (List Int)) (ix : List Int) (lw : List Int) (on : List Bool) (st : List Int) (nx : Int) (se : List Int) (sn : Int) (v : Int) (h0 : List (List Int)) (h0_1 : List Int) (h0_2 : List Int) (h0_3 : List Bool) (h0_4 : List Int) (h0_5 : Int) (h0_6 : List Int) (h0_7 : Int) (h1 : List Step) : run tb C84 U84 J (R84 g ix lw on st nx se sn v) 4096 k84_j1 (s84_j1 g ix lw on st nx se sn v h0 h0_1 h0_2 h0_3 h0_4 h0_5 h0_6 h0_7 h1) =
    J k84_l0 (s84_l0 g ix lw on st nx se sn v (h0) (h0_1) (h0_2) (h0_3) (h0_4) (h0_5) (h0_6) (h0_7) (h1)) := by kernel_rfl
theorem e84_j2 (J : List Item → St Ty → EvR) (g : List (List Int)) (ix : List Int) (lw : List Int) (on : List Bool) (st : List Int) (nx : Int) (se : List Int) (sn : Int) (v : Int) (v5 : Nat) (h0 : List (List Int)) (h0_1 : List Int) (h0_2 : List Int) (h0_3 : List Bool) (h0_4 : List Int) (h0_5 : Int) (h0_6 : List Int) (h0_7 : Int) (h1 : List Step) : run tb C84 U84 J (R84 g ix lw on st nx se sn v) 4096 k84_j2 (s84_j2 g ix lw on st nx se sn v v5 h0 h0_1 h0_2 h0_3 h0_4 h0_5 h0_6 h0_7 h1) =
    if (0 : Int) ≤ (0 : Int) ∧ (0 : Int) ≤ IntKind.i64.wrap ((↑h1.length : Int) - (1 : Int)) ∧ IntKind.i64.wrap ((↑h1.length : Int) - (1 : Int)) ≤ (↑h1.length : Int) then
     if decide ((↑((IntKind.i64.wrap ((↑h1.length : Int) - (1 : Int))).toNat - Int.toNat (0 : Int)) : Int) > (0 : Int)) = true then
      if (0 : Int) ≤ IntKind.i64.wrap ((↑((IntKind.i64.wrap ((↑h1.length : Int) - (1 : Int))).toNat - Int.toNat (0 : Int)) : Int) - (1 : Int)) then
       if IntKind.i64.wrap ((↑((IntKind.i64.wrap ((↑h1.length : Int) - (1 : Int))).toNat - Int.toNat (0 : Int)) : Int) - (1 : Int)) < (↑((IntKind.i64.wrap ((↑h1.length : Int) - (1 : Int))).toNat - Int.toNat (0 : Int)) : Int) then
        if (0 : Int) ≤ (h1.getD ((0 : Nat) + Int.toNat (0 : Int) + (IntKind.i64.wrap ((↑((IntKind.i64.wrap ((↑h1.length : Int) - (1 : Int))).toNat - Int.toNat (0 : Int)) : Int) - (1 : Int))).toNat) (Step.mk (0 : Int) (0 : Int))).v_ then
         if (h1.getD ((0 : Nat) + Int.toNat (0 : Int) + (IntKind.i64.wrap ((↑((IntKind.i64.wrap ((↑h1.length : Int) - (1 : Int))).toNat - Int.toNat (0 : Int)) : Int) - (1 : Int))).toNat) (Step.mk (0 : Int) (0 : Int))).v_ < (↑h0_2.length : Int) then
          if (0 : Int) ≤ (h1.getD v5 (Step.mk (0 : Int) (0 : Int))).v_ then
           if (h1.getD v5 (Step.mk (0 : Int) (0 : Int))).v_ < (↑h0_2.length : Int) then
            if (0 : Int) ≤ (h1.getD ((0 : Nat) + Int.toNat (0 : Int) + (IntKind.i64.wrap ((↑((IntKind.i64.wrap ((↑h1.length : Int) - (1 : Int))).toNat - Int.toNat (0 : Int)) : Int) - (1 : Int))).toNat) (Step.mk (0 : Int) (0 : Int))).v_ then
             if (h1.getD ((0 : Nat) + Int.toNat (0 : Int) + (IntKind.i64.wrap ((↑((IntKind.i64.wrap ((↑h1.length : Int) - (1 : Int))).toNat - Int.toNat (0 : Int)) : Int) - (1 : Int))).toNat) (Step.mk (0 : Int) (0 : Int))).v_ < (↑h0_2.length : Int) then
              if (0 : Int) ≤ (h1.getD v5 (Step.mk (0 : Int) (0 : Int))).v_ then
               if (h1.getD v5 (Step.mk (0 : Int) (0 : Int))).v_ < (↑(h0_2.set ((0 : Nat) + (h1.getD ((0 : Nat) + Int.toNat (0 : Int) + (IntKind.i64.wrap ((↑((IntKind.i64.wrap ((↑h1.length : Int) - (1 : Int))).toNat - Int.toNat (0 : Int)) : Int) - (1 : Int))).toNat) (Step.mk (0 : Int) (0 : Int))).v_.toNat) (if h0_2.getD ((0 : Nat) + (h1.getD v5 (Step.mk (0 : Int) (0 : Int))).v_.toNat) (0 : Int) < h0_2.getD ((0 : Nat) + (h1.getD ((0 : Nat) + Int.toNat (0 : Int) + (IntKind.i64.wrap ((↑((IntKind.i64.wrap ((↑h1.length : Int) - (1 : Int))).toNat - Int.toNat (0 : Int)) : Int) - (1 : Int))).toNat) (Step.mk (0 : Int) (0 : Int))).v_.toNat) (0 : Int) then h0_2.getD ((0 : Nat) + (h1.getD v5 (Step.mk (0 : Int) (0 : Int))).v_.toNat) (0 : Int) else h0_2.getD ((0 : Nat) + (h1.getD ((0 : Nat) + Int.toNat (0 : Int) + (IntKind.i64.wrap ((↑((IntKind.i64.wrap ((↑h1.length : Int) - (1 : Int))).toNat - Int.toNat (0 : Int)) : Int) - (1 : Int))).toNat) (Step.mk (0 : Int) (0 : Int))).v_.toNat) (0 : Int))).length : Int) then
                if (0 : Int) ≤ (h1.getD v5 (Step.mk (0 : Int) (0 : Int))).v_ then
                 if (h1.getD v5 (Step.mk (0 : Int) (0 : Int))).v_ < (↑h0_1.length : Int) then
                  if ((h0_2.set ((0 : Nat) + (h1.getD ((0 : Nat) + Int.toNat (0 : Int) + (IntKind.i64.wrap ((↑((IntKind.i64.wrap ((↑h1.length : Int) - (1 : Int))).toNat - Int.toNat (0 : Int)) : Int) - (1 : Int))).toNat) (Step.mk (0 : Int) (0 : Int))).v_.toNat) (if h0_2.getD ((0 : Nat) + (h1.getD v5 (Step.mk (0 : Int) (0 : Int))).v_.toNat) (0 : Int) < h0_2.getD ((0 : Nat) + (h1.getD ((0 : Nat) + Int.toNat (0 : Int) + (IntKind.i64.wrap ((↑((IntKind.i64.wrap ((↑h1.length : Int) - (1 : Int))).toNat - Int.toNat (0 : Int)) : Int) - (1 : Int))).toNat) (Step.mk (0 : Int) (0 : Int))).v_.toNat) (0 : Int) then h0_2.getD ((0 : Nat) + (h1.getD v5 (Step.mk (0 : Int) (0 : Int))).v_.toNat) (0 : Int) else h0_2.getD ((0 : Nat) + (h1.getD ((0 : Nat) + Int.toNat (0 : Int) + (IntKind.i64.wrap ((↑((IntKind.i64.wrap ((↑h1.length : Int) - (1 : Int))).toNat - Int.toNat (0 : Int)) : Int) - (1 : Int))).toNat) (Step.mk (0 : Int) (0 : Int))).v_.toNat) (0 : Int))).getD ((0 : Nat) + (h1.getD v5 (Step.mk (0 : Int) (0 : Int))).v_.toNat) (0 : Int) == h0_1.getD ((0 : Nat) + (h1.getD v5 (Step.mk (0 : Int) (0 : Int))).v_.toNat) (0 : Int)) = true then
                   if shutOk h0_3 h0_4 h0_6 h0_7 (h1.getD v5 (Step.mk (0 : Int) (0 : Int))).v_ then
                    J k84_j1 (s84_j1 g ix lw on st nx se sn v (h0) (h0_1) (h0_2.set ((0 : Nat) + (h1.getD ((0 : Nat) + Int.toNat (0 : Int) + (IntKind.i64.wrap ((↑((IntKind.i64.wrap ((↑h1.length : Int) - (1 : Int))).toNat - Int.toNat (0 : Int)) : Int) - (1 : Int))).toNat) (Step.mk (0 : Int) (0 : Int))).v_.toNat) (if h0_2.getD ((0 : Nat) + (h1.getD v5 (Step.mk (0 : Int) (0 : Int))).v_.toNat) (0 : Int) < h0_2.getD ((0 : Nat) + (h1.getD ((0 : Nat) + Int.toNat (0 : Int) + (IntKind.i64.wrap ((↑((IntKind.i64.wrap ((↑h1.length : Int) - (1 : Int))).toNat - Int.toNat (0 : Int)) : Int) - (1 : Int))).toNat) (Step.mk (0 : Int) (0 : Int))).v_.toNat) (0 : Int) then h0_2.getD ((0 : Nat) + (h1.getD v5 (Step.mk (0 : Int) (0 : Int))).v_.toNat) (0 : Int) else h0_2.getD ((0 : Nat) + (h1.getD ((0 : Nat) + Int.toNat (0 : Int) + (IntKind.i64.wrap ((↑((IntKind.i64.wrap ((↑h1.length : Int) - (1 : Int))).toNat - Int.toNat (0 : Int)) : Int) - (1 : Int))).toNat) (Step.mk (0 : Int) (0 : Int))).v_.toNat) (0 : Int))) (setAll h0_3 (List.drop (shutAt h0_4 (h1.getD v5 (Step.mk (0 : Int) (0 : Int))).v_) h0_4) false) (List.take (shutAt h0_4 (h1.getD v5 (Step.mk (0 : Int) (0 : Int))).v_) h0_4) (h0_5) (setAll h0_6 (List.drop (shutAt h0_4 (h1.getD v5 (Step.mk (0 : Int) (0 : Int))).v_) h0_4) h0_7) (h0_7 + (1 : Int)) (List.take ((IntKind.i64.wrap ((↑h1.length : Int) - (1 : Int))).toNat - Int.toNat (0 : Int)) (List.drop ((0 : Nat) + Int.toNat (0 : Int)) h1)))
                   else
                    none
                  else
                   J k84_j1 (s84_j1 g ix lw on st nx se sn v (h0) (h0_1) (h0_2.set ((0 : Nat) + (h1.getD ((0 : Nat) + Int.toNat (0 : Int) + (IntKind.i64.wrap ((↑((IntKind.i64.wrap ((↑h1.length : Int) - (1 : Int))).toNat - Int.toNat (0 : Int)) : Int) - (1 : Int))).toNat) (Step.mk (0 : Int) (0 : Int))).v_.toNat) (if h0_2.getD ((0 : Nat) + (h1.getD v5 (Step.mk (0 : Int) (0 : Int))).v_.toNat) (0 : Int) < h0_2.getD ((0 : Nat) + (h1.getD ((0 : Nat) + Int.toNat (0 : Int) + (IntKind.i64.wrap ((↑((IntKind.i64.wrap ((↑h1.length : Int) - (1 : Int))).toNat - Int.toNat (0 : Int)) : Int) - (1 : Int))).toNat) (Step.mk (0 : Int) (0 : Int))).v_.toNat) (0 : Int) then h0_2.getD ((0 : Nat) + (h1.getD v5 (Step.mk (0 : Int) (0 : Int))).v_.toNat) (0 : Int) else h0_2.getD ((0 : Nat) + (h1.getD ((0 : Nat) + Int.toNat (0 : Int) + (IntKind.i64.wrap ((↑((IntKind.i64.wrap ((↑h1.length : Int) - (1 : Int))).toNat - Int.toNat (0 : Int)) : Int) - (1 : Int))).toNat) (Step.mk (0 : Int) (0 : Int))).v_.toNat) (0 : Int))) (h0_3) (h0_4) (h0_5) (h0_6) (h0_7) (List.take ((IntKind.i64.wrap ((↑h1.length : Int) - (1 : Int))).toNat - Int.toNat (0 : Int)) (List.drop ((0 : Nat) + Int.toNat (0 : Int)) h1)))
                 else
                  none
                else
                 none
               else
                none
              else
               none
             else
              none
            else
             none
           else
            none
          else
           none
         else
          none
        else
         none
       else
        none
      else
       none
     else
      if (0 : Int) ≤ (h1.getD v5 (Step.mk (0 : Int) (0 : Int))).v_ then
       if (h1.getD v5 (Step.mk (0 : Int) (0 : Int))).v_ < (↑h0_2.length : Int) then
        if (0 : Int) ≤ (h1.getD v5 (Step.mk (0 : Int) (0 : Int))).v_ then
         if (h1.getD v5 (Step.mk (0 : Int) (0 : Int))).v_ < (↑h0_1.length : Int) then
          if (h0_2.getD ((0 : Nat) + (h1.getD v5 (Step.mk (0 : Int) (0 : Int))).v_.toNat) (0 : Int) == h0_1.getD ((0 : Nat) + (h1.getD v5 (Step.mk (0 : Int) (0 : Int))).v_.toNat) (0 : Int)) = true then
           if shutOk h0_3 h0_4 h0_6 h0_7 (h1.getD v5 (Step.mk (0 : Int) (0 : Int))).v_ then
            J k84_j1 (s84_j1 g ix lw on st nx se sn v (h0) (h0_1) (h0_2) (setAll h0_3 (List.drop (shutAt h0_4 (h1.getD v5 (Step.mk (0 : Int) (0 : Int))).v_) h0_4) false) (List.take (shutAt h0_4 (h1.getD v5 (Step.mk (0 : Int) (0 : Int))).v_) h0_4) (h0_5) (setAll h0_6 (List.drop (shutAt h0_4 (h1.getD v5 (Step.mk (0 : Int) (0 : Int))).v_) h0_4) h0_7) (h0_7 + (1 : Int)) (List.take ((IntKind.i64.wrap ((↑h1.length : Int) - (1 : Int))).toNat - Int.toNat (0 : Int)) (List.drop ((0 : Nat) + Int.toNat (0 : Int)) h1)))
           else
            none
          else
           J k84_j1 (s84_j1 g ix lw on st nx se sn v (h0) (h0_1) (h0_2) (h0_3) (h0_4) (h0_5) (h0_6) (h0_7) (List.take ((IntKind.i64.wrap ((↑h1.length : Int) - (1 : Int))).toNat - Int.toNat (0 : Int)) (List.drop ((0 : Nat) + Int.toNat (0 : Int)) h1)))
         else
          none
        else
         none
       else
        none
      else
       none
    else
     none := by kernel_rfl

theorem in84 : Entered 84 := ⟨Try.f84, b84, by kernel_rfl, by kernel_rfl, by kernel_rfl⟩
theorem fn84 (g : List (List Int)) (ix lw : List Int) (on : List Bool) (st : List Int) (nx : Int) (se : List Int) (sn : Int) (v : Int) {res : AV Ty} {outs : List (AV Ty)} (h : Ends C84 U84 (R84 g ix lw on st nx se sn v) [.code b84] ⟨slotsA (a84 g ix lw on st nx se sn v) 0 0, heapA (a84 g ix lw on st nx se sn v)⟩ (some (res, outs))) : CallOk tb Try.prog 84 (a84 g ix lw on st nx se sn v) res outs := by
  obtain ⟨n0, hn⟩ := h
  exact fn_ok (C := C84) (U := U84) (n := 0 + n0) (q := .keep) tbOk good (fun f mu S h => by
    unfold C84 at h
    simp only at h
    split at h
    · cases h; exact ⟨in132, S132_ok⟩
    · cases h; exact ⟨in133, S133_ok⟩
    · cases h) mixed (fn := Try.f84) (body := b84) (by kernel_rfl) (by kernel_rfl) rfl rfl (by show 2 ≤ 181; omega) (hn 0)
theorem intL_getD (X : List Nat) (v : Nat) : (intL X).getD v 0 = ((X.getD v 0 : Nat) : Int) := by
  by_cases h : v < X.length
  · exact intL_get h
  · simp [intL, List.getD_eq_getElem?_getD, List.getElem?_eq_none (Nat.le_of_not_lt h)]
theorem intL_set (X : List Nat) (z a : Nat) : (intL X).set z (a : Int) = intL (X.set z a) := by simp [intL, List.map_set]
theorem intL_inj {X Y : List Nat} (h : intL X = intL Y) : X = Y := by
  refine ext_getD 0 (by rw [← intL_len, ← intL_len Y, h]) fun i _ => ?_
  have := congrArg (fun l => l.getD i 0) h
  simp only [intL_getD] at this
  omega
theorem mem_intL {X : List Nat} {v : Nat} : (v : Int) ∈ intL X ↔ v ∈ X := by
  unfold intL
  rw [List.mem_map]
  constructor
  · rintro ⟨a, h, e⟩; have : a = v := by omega
    subst this; exact h
  · intro h; exact ⟨v, h, rfl⟩
theorem of_intL {X : List Nat} {y : Int} (h : y ∈ intL X) : ∃ v, v ∈ X ∧ y = (v : Nat) := by
  unfold intL at h
  obtain ⟨a, h, e⟩ := List.mem_map.1 h
  exact ⟨a, h, e.symm⟩
theorem fun_set {X : List Nat} {z a : Nat} (h : z < X.length) : (fun v => (X.set z a).getD v 0) = updN (fun v => X.getD v 0) z a := by
  funext v
  rw [getD_set' h]
  rfl
def zeros (X : List Nat) : Nat := X.count 0
theorem zeros_set {X : List Nat} {z a : Nat} (h : z < X.length) (h0 : X.getD z 0 = 0) (ha : a ≠ 0) : zeros (X.set z a) + 1 = zeros X := by
  unfold zeros
  induction X generalizing z with
  | nil => simp at h
  | cons x X ih =>
    cases z with
    | zero =>
      simp only [List.getD_cons_zero] at h0
      subst h0
      simp [ha]
    | succ z =>
      simp only [List.getD_cons_succ] at h0
      simp only [List.length_cons] at h
      have := ih (by omega) h0
      rw [List.set_cons_succ, List.count_cons, List.count_cons]
      omega
def wL (W : List (Nat × Nat)) : List Ev.Step := W.map fun p => ⟨(p.1 : Nat), (p.2 : Nat)⟩
theorem wL_len (W : List (Nat × Nat)) : (wL W).length = W.length := by simp [wL]
theorem wL_app (W V : List (Nat × Nat)) : wL W ++ wL V = wL (W ++ V) := by simp [wL]
theorem wL_get (W V : List (Nat × Nat)) (v k : Nat) (d : Ev.Step) : (wL (W ++ (v, k) :: V)).getD W.length d = ⟨(v : Nat), (k : Nat)⟩ := by
  simp [wL, List.getD_eq_getElem?_getD]
theorem wL_set (W V : List (Nat × Nat)) (v k k' : Nat) : (wL (W ++ (v, k) :: V)).set W.length ⟨(v : Nat), (k' : Nat)⟩ = wL (W ++ (v, k') :: V) := by
  simp [wL]
theorem wL_take (W V : List (Nat × Nat)) : (wL (W ++ V)).take W.length = wL W := by
  simp [wL]
/-- The lists stand for the state. -/
structure TL (g : List (List Int)) (X L E : List Nat) (O : List Bool) (S : List Nat) (nx sn : Nat) (W : List (Nat × Nat)) : Prop where
  lX : X.length = g.length
  lL : L.length = g.length
  lE : E.length = g.length
  lO : O.length = g.length
  on : ∀ v, O.getD v false = true ↔ v ∈ S
  tj : Tj g (fun v => X.getD v 0) (fun v => L.getD v 0) (fun v => E.getD v 0) S nx sn W
  cnt : nx + zeros X = g.length
  cs : sn + S.length ≤ nx
  cw : W.length ≤ nx
def mono (X Y : List Nat) : Prop := ∀ v, X.getD v 0 ≠ 0 → Y.getD v 0 ≠ 0
theorem TL.opn {g : List (List Int)} {X L E : List Nat} {O : List Bool} {S : List Nat} {nx sn : Nat} {W : List (Nat × Nat)} {z : Nat} (h : TL g X L E O S nx sn W) (hz : z < g.length) (h0 : X.getD z 0 = 0) (hr : ∀ p, p ∈ W → Rch (ed g) p.1 z) :
    TL g (X.set z (nx + 1)) (L.set z (nx + 1)) E (O.set z true) (S ++ [z]) (nx + 1) sn (W ++ [(z, 0)]) ∧ mono X (X.set z (nx + 1)) ∧ (X.set z (nx + 1)).getD z 0 ≠ 0 ∧ zeros (X.set z (nx + 1)) + 1 = zeros X := by
  have hX := h.lX
  have hL := h.lL
  have hO := h.lO
  have hc := zeros_set (X := X) (z := z) (a := nx + 1) (by omega) h0 (by omega)
  refine ⟨⟨by simpa using hX, by simpa using hL, h.lE, by simpa using hO, fun v => ?_, ?_, ?_, ?_, ?_⟩, fun v hv => ?_, ?_, hc⟩
  · rw [getD_set' (by omega)]
    by_cases e : z = v
    · subst e; simp
    · rw [if_neg e, h.on v]; simp [show ¬ v = z from fun h => e h.symm]
  · rw [fun_set (by omega), fun_set (by omega)]
    exact h.tj.opn hz h0 hr
  · have := h.cnt; omega
  · have := h.cs; simp; omega
  · have := h.cw; simp; omega
  · rw [getD_set' (by omega)]
    split
    · omega
    · exact hv
  · rw [getD_set' (by omega), if_pos rfl]; omega
theorem TL.adv {g : List (List Int)} {X L E : List Nat} {O : List Bool} {S : List Nat} {nx sn : Nat} {W1 W2 : List (Nat × Nat)} {v k : Nat} (h : TL g X L E O S nx sn (W1 ++ (v, k) :: W2)) (hk : k < (g.getD v []).length) {m : Nat}
    (hz : ∀ z : Nat, z < g.length → (g.getD v []).getD k 0 = z → 0 < X.getD z 0 ∧ (z ∈ S → m ≤ X.getD z 0)) (hm : m ≤ L.getD v 0) (hm' : m = L.getD v 0 ∨ ∃ z, z ∈ S ∧ (g.getD v []).getD k 0 = (z : Nat) ∧ m = X.getD z 0) :
    TL g X (L.set v m) E O S nx sn (W1 ++ (v, k + 1) :: W2) := by
  have hv := (h.tj.inS v (h.tj.wS (v, k) (by simp))).1
  have hL := h.lL
  refine ⟨h.lX, by simpa using hL, h.lE, h.lO, h.on, ?_, h.cnt, h.cs, by have := h.cw; simpa using this⟩
  rw [fun_set (by omega)]
  exact h.tj.adv hk hz hm hm'
theorem set_same {X : List Nat} {v : Nat} : X.set v (X.getD v 0) = X := by
  refine ext_getD 0 (by simp) fun i hi => ?_
  by_cases h : v < X.length
  · rw [getD_set' h]; split
    · rename_i e; subst e; rfl
    · rfl
  · rw [List.set_eq_of_length_le (by omega)]
theorem min_int (a b : Nat) : (if (a : Int) < (b : Int) then (a : Int) else (b : Int)) = ((min a b : Nat) : Int) := by
  split <;> omega
section
variable {g0 : List (List Int)} {i0 l0 : List Int} {o0 : List Bool} {t0 : List Int} {n0 : Int} {e0 : List Int} {m0 r0 : Int}
variable {g : List (List Int)} {E : List Nat} {sn : Nat}
def st0 (g0 : List (List Int)) (i0 l0 : List Int) (o0 : List Bool) (t0 : List Int) (n0 : Int) (e0 : List Int) (m0 r0 : Int) (g : List (List Int)) (X L E : List Nat) (O : List Bool) (S : List Nat) (nx sn : Nat) (W : List (Nat × Nat)) : St Ty :=
  s84_l0 g0 i0 l0 o0 t0 n0 e0 m0 r0 g (intL X) (intL L) O (intL S) nx (intL E) sn (wL W)
def st2 (g0 : List (List Int)) (i0 l0 : List Int) (o0 : List Bool) (t0 : List Int) (n0 : Int) (e0 : List Int) (m0 r0 : Int) (g : List (List Int)) (X L E : List Nat) (O : List Bool) (S : List Nat) (nx sn : Nat) (W : List (Nat × Nat)) (v5 : Nat) : St Ty :=
  s84_l2 g0 i0 l0 o0 t0 n0 e0 m0 r0 v5 g (intL X) (intL L) O (intL S) nx (intL E) sn (wL W)
def stj (g0 : List (List Int)) (i0 l0 : List Int) (o0 : List Bool) (t0 : List Int) (n0 : Int) (e0 : List Int) (m0 r0 : Int) (g : List (List Int)) (X L E : List Nat) (O : List Bool) (S : List Nat) (nx sn : Nat) (W : List (Nat × Nat)) (v5 : Nat) : St Ty :=
  s84_j2 g0 i0 l0 o0 t0 n0 e0 m0 r0 v5 g (intL X) (intL L) O (intL S) nx (intL E) sn (wL W)
theorem openOk_of {X L : List Nat} {O : List Bool} {S : List Nat} {nx : Nat} {W : List (Nat × Nat)} (hg : smallRows g) (h : TL g X L E O S nx sn W) {z : Nat} (hz : z < g.length) : openOk (intL X) (intL L) O (intL S) nx z := by
  have := h.lX
  have := h.lL
  have := h.lO
  have := hg.1
  have := h.cs
  have := h.cnt
  refine ⟨by omega, by rw [intL_len]; omega, by rw [intL_len]; omega, by omega, by rw [intL_len]; omega, by omega, by omega⟩
theorem from_in (hg : smallRows g) {v : Nat} {W0 : List (Nat × Nat)} : ∀ (m k : Nat) (X L : List Nat) (O : List Bool) (S : List Nat) (nx : Nat), k + m = (g.getD v []).length → TL g X L E O S nx sn (W0 ++ [(v, k)]) →
    (∃ X' L' O' S' nx' W', TL g X' L' E O' S' nx' sn W' ∧ 2 * zeros X' + W'.length < 2 * zeros X + (W0.length + 1) ∧ mono X X' ∧
      Goes C84 U84 (R84 g0 i0 l0 o0 t0 n0 e0 m0 r0) k84_l2 (st2 g0 i0 l0 o0 t0 n0 e0 m0 r0 g X L E O S nx sn (W0 ++ [(v, k)]) W0.length) k84_l0 (st0 g0 i0 l0 o0 t0 n0 e0 m0 r0 g X' L' E O' S' nx' sn W')) ∨
    (∃ L', TL g X L' E O S nx sn (W0 ++ [(v, (g.getD v []).length)]) ∧
      Goes C84 U84 (R84 g0 i0 l0 o0 t0 n0 e0 m0 r0) k84_l2 (st2 g0 i0 l0 o0 t0 n0 e0 m0 r0 g X L E O S nx sn (W0 ++ [(v, k)]) W0.length) k84_j2 (stj g0 i0 l0 o0 t0 n0 e0 m0 r0 g X L' E O S nx sn (W0 ++ [(v, (g.getD v []).length)]) W0.length))
  | 0, k, X, L, O, S, nx, hm, h => by
    have hv := (h.tj.inS v (h.tj.wS (v, k) (by simp))).1
    have e : k = (g.getD v []).length := by omega
    refine .inr ⟨L, by rw [← e]; exact h, .step fun J => ?_⟩
    unfold st2 stj
    rw [e84_l2]
    simp only [decide_eq_true_eq, decide_eq_false_iff_not]
    rw [wL_get, e]
    simp only [Int.toNat_natCast]
    simp (disch := first | omega | assumption | (rw [decide_eq_true_eq]; omega) | (rw [decide_eq_false_iff_not]; omega)) only [↓if_pos, ↓if_neg, if_true, if_false, wrap_up, Int.toNat_natCast, Nat.zero_add]
  | m + 1, k, X, L, O, S, nx, hm, h => by
    have vS := h.tj.wS (v, k) (by simp)
    have hv := (h.tj.inS v vS).1
    have hk : k < (g.getD v []).length := by omega
    have b1 := hg.1
    have b2 := hg.2 _ (getD_in (d := []) hv)
    have hX := h.lX
    have hL := h.lL
    have hO := h.lO
    have hset : (wL (W0 ++ [(v, k)])).set W0.length ⟨(v : Nat), ((k : Nat) : Int) + 1⟩ = wL (W0 ++ [(v, k + 1)]) := wL_set W0 [] v k (k + 1)
    have hget : (wL (W0 ++ [(v, k)])).getD W0.length ⟨0, 0⟩ = ⟨(v : Nat), (k : Nat)⟩ := wL_get W0 [] v k _
    have hget2 : (wL (W0 ++ [(v, k + 1)])).getD W0.length ⟨0, 0⟩ = ⟨(v : Nat), ((k + 1 : Nat) : Int)⟩ := wL_get W0 [] v (k + 1) _
    have next : ∀ (L' : List Nat), TL g X L' E O S nx sn (W0 ++ [(v, k + 1)]) →
        Goes C84 U84 (R84 g0 i0 l0 o0 t0 n0 e0 m0 r0) k84_l2 (st2 g0 i0 l0 o0 t0 n0 e0 m0 r0 g X L E O S nx sn (W0 ++ [(v, k)]) W0.length) k84_j3 (s84_j3 g0 i0 l0 o0 t0 n0 e0 m0 r0 W0.length g (intL X) (intL L') O (intL S) nx (intL E) sn (wL (W0 ++ [(v, k + 1)]))) →
        (∃ X' L' O' S' nx' W', TL g X' L' E O' S' nx' sn W' ∧ 2 * zeros X' + W'.length < 2 * zeros X + (W0.length + 1) ∧ mono X X' ∧
          Goes C84 U84 (R84 g0 i0 l0 o0 t0 n0 e0 m0 r0) k84_l2 (st2 g0 i0 l0 o0 t0 n0 e0 m0 r0 g X L E O S nx sn (W0 ++ [(v, k)]) W0.length) k84_l0 (st0 g0 i0 l0 o0 t0 n0 e0 m0 r0 g X' L' E O' S' nx' sn W')) ∨
        (∃ L', TL g X L' E O S nx sn (W0 ++ [(v, (g.getD v []).length)]) ∧
          Goes C84 U84 (R84 g0 i0 l0 o0 t0 n0 e0 m0 r0) k84_l2 (st2 g0 i0 l0 o0 t0 n0 e0 m0 r0 g X L E O S nx sn (W0 ++ [(v, k)]) W0.length) k84_j2 (stj g0 i0 l0 o0 t0 n0 e0 m0 r0 g X L' E O S nx sn (W0 ++ [(v, (g.getD v []).length)]) W0.length)) := fun L' h' gs => by
      have gs2 := gs.trans (.step fun J => e84_j3 J _ _ _ _ _ _ _ _ _ _ _ _ _ _ _ _ _ _ _)
      rcases from_in hg m (k + 1) X L' O S nx (by omega) h' with ⟨X2, L2, O2, S2, n2, W2, a1, a2, a3, a4⟩ | ⟨L2, a1, a2⟩
      · exact .inl ⟨X2, L2, O2, S2, n2, W2, a1, a2, a3, gs2.trans a4⟩
      · exact .inr ⟨L2, a1, gs2.trans a2⟩
    by_cases c1 : 0 ≤ (g.getD v []).getD k 0
    · by_cases c2 : (g.getD v []).getD k 0 < g.length
      · obtain ⟨z, ez⟩ := Int.eq_ofNat_of_zero_le c1
        rw [ez] at c2
        have hz : z < g.length := by omega
        have he : ed g v z := h.tj.edge vS hk hz ez
        by_cases c3 : X.getD z 0 = 0
        · obtain ⟨t1, t2, t3, t4⟩ := h.opn hz c3 fun p hp => (h.tj.dsc p hp v vS (last_max h.tj hp)).trans (.one he)
          have zv : z ≠ v := fun e => by subst e; have : 0 < X.getD z 0 := (h.tj.inS z vS).2; omega
          have lv := (h.tj.up (v, k) (by simp)).1
          have xv := h.tj.top v
          simp only at lv xv
          have gv : (L.set z (nx + 1)).getD v 0 = L.getD v 0 := by rw [getD_set' (by omega), if_neg zv]
          have t5 := TL.adv (W1 := W0) (v := v) (k := k) (W2 := [(z, 0)]) (m := L.getD v 0) (by have := t1; rw [List.append_assoc] at this; exact this) hk (fun y hy ey => by
            have : y = z := by have := ey.symm.trans ez; omega
            subst this
            exact ⟨by omega, fun _ => by rw [getD_set' (by omega), if_pos rfl]; omega⟩) (by rw [gv]; exact Nat.le_refl _) (.inl gv.symm)
          rw [← gv, set_same] at t5
          refine .inl ⟨_, _, _, _, _, _, t5, by simp only [List.length_append, List.length_cons, List.length_nil]; omega, t2, Goes.trans (.step fun J => ?_) (.step fun J => e84_j1 J _ _ _ _ _ _ _ _ _ _ _ _ _ _ _ _ _ _)⟩
          have ok := openOk_of hg h hz
          have c3' : (((X.getD z 0 : Nat) : Int) == 0) = true := by rw [c3]; rfl
          have cw := h.cw
          have cc := h.cnt
          have wl : (wL (W0 ++ [(v, k + 1)])).length ≤ 1000000 := by rw [wL_len]; simp only [List.length_append, List.length_cons, List.length_nil] at cw ⊢; omega
          unfold st2
          rw [e84_l2]
          simp only [decide_eq_true_eq, decide_eq_false_iff_not]
          rw [hget]
          simp only [Int.toNat_natCast, ez, intL_getD, Nat.zero_add]
          rw [wrap_up (by omega), hset]
          have xl : (intL X).length = g.length := by rw [intL_len, hX]
          simp (disch := first | omega | assumption | (rw [decide_eq_true_eq]; omega) | (rw [decide_eq_false_iff_not]; omega)) only [↓if_pos, ↓if_neg, if_true, if_false, wrap_up, Int.toNat_natCast, Nat.zero_add, xl, List.length_singleton]
          rw [intL_app, show ((nx : Nat) : Int) + 1 = ((nx + 1 : Nat) : Int) by omega, intL_set, intL_set, show [Ev.Step.mk (z : Int) 0] = wL [(z, 0)] from rfl, wL_app, List.append_assoc]
          rfl
        · by_cases c4 : z ∈ S
          · refine next (L.set v (min (X.getD z 0) (L.getD v 0))) (h.adv (W1 := W0) (W2 := []) hk (fun y hy ey => ?_) (Nat.min_le_right _ _) ?_) (.step fun J => ?_)
            · have : y = z := by have := ey.symm.trans ez; omega
              subst this
              exact ⟨by omega, fun _ => Nat.min_le_left _ _⟩
            · rcases Nat.le_total (L.getD v 0) (X.getD z 0) with e | e
              · exact .inl (Nat.min_eq_right e)
              · exact .inr ⟨z, c4, ez, Nat.min_eq_left e⟩
            · have on := (h.on z).2 c4
              have c3' : ¬ (((X.getD z 0 : Nat) : Int) == 0) = true := fun e => c3 (by have := beq_iff_eq.1 e; omega)
              have xl : (intL X).length = g.length := by rw [intL_len, hX]
              have ll : (intL L).length = g.length := by rw [intL_len, hL]
              unfold st2
              rw [e84_l2]
              simp only [decide_eq_true_eq, decide_eq_false_iff_not]
              rw [hget]
              simp only [Int.toNat_natCast, ez, intL_getD, Nat.zero_add]
              rw [wrap_up (by omega), hset, hget2]
              simp only [Int.toNat_natCast, intL_getD]
              simp (disch := first | omega | assumption | (rw [decide_eq_true_eq]; omega) | (rw [decide_eq_false_iff_not]; omega)) only [↓if_pos, ↓if_neg, if_true, if_false, wrap_up, Int.toNat_natCast, Nat.zero_add, xl, ll, if_neg c3', on, min_int, intL_set]
          · have t := h.adv (W1 := W0) (W2 := []) (m := L.getD v 0) hk (fun y hy ey => by
              have : y = z := by have := ey.symm.trans ez; omega
              subst this
              exact ⟨by omega, fun hs => absurd hs c4⟩) (Nat.le_refl _) (.inl rfl)
            rw [set_same] at t
            refine next L t (.step fun J => ?_)
            have on : ¬ O.getD z false = true := fun e => c4 ((h.on z).1 e)
            have c3' : ¬ (((X.getD z 0 : Nat) : Int) == 0) = true := fun e => c3 (by have := beq_iff_eq.1 e; omega)
            have xl : (intL X).length = g.length := by rw [intL_len, hX]
            have ll : (intL L).length = g.length := by rw [intL_len, hL]
            unfold st2
            rw [e84_l2]
            simp only [decide_eq_true_eq, decide_eq_false_iff_not]
            rw [hget]
            simp only [Int.toNat_natCast, ez, intL_getD, Nat.zero_add]
            rw [wrap_up (by omega), hset]
            simp (disch := first | omega | assumption | (rw [decide_eq_true_eq]; omega) | (rw [decide_eq_false_iff_not]; omega)) only [↓if_pos, ↓if_neg, if_true, if_false, wrap_up, Int.toNat_natCast, Nat.zero_add, xl, ll, if_neg c3', if_neg on]
      · have t := h.adv (W1 := W0) (W2 := []) (m := L.getD v 0) hk (fun y hy ey => by omega) (Nat.le_refl _) (.inl rfl)
        rw [set_same] at t
        refine next L t (.step fun J => ?_)
        unfold st2
        rw [e84_l2]
        simp only [decide_eq_true_eq, decide_eq_false_iff_not]
        rw [hget]
        simp only [Int.toNat_natCast]
        rw [wrap_up (by omega), hset]
        simp (disch := first | omega | assumption | (rw [decide_eq_true_eq]; omega) | (rw [decide_eq_false_iff_not]; omega)) only [↓if_pos, ↓if_neg, if_true, if_false, wrap_up, Int.toNat_natCast, Nat.zero_add]
    · have t := h.adv (W1 := W0) (W2 := []) (m := L.getD v 0) hk (fun y hy ey => by omega) (Nat.le_refl _) (.inl rfl)
      rw [set_same] at t
      refine next L t (.step fun J => ?_)
      unfold st2
      rw [e84_l2]
      simp only [decide_eq_true_eq, decide_eq_false_iff_not]
      rw [hget]
      simp only [Int.toNat_natCast]
      rw [wrap_up (by omega), hset]
      simp (disch := first | omega | assumption | (rw [decide_eq_true_eq]; omega) | (rw [decide_eq_false_iff_not]; omega)) only [↓if_pos, ↓if_neg, if_true, if_false, wrap_up, Int.toNat_natCast, Nat.zero_add]
end
end Go.Proofs.Ytggibjbcbicpjaa.Ev
