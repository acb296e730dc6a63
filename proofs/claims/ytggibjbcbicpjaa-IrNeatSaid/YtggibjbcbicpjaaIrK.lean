/- plnlaw3.IrNeat answers true. -/
import Derived.Test.YtggibjbcbicpjaaIrJ
namespace Go.Proofs.Ytggibjbcbicpjaa.Ev
open Go
set_option linter.unusedVariables false
set_option linter.unusedSimpArgs false
noncomputable def b4 : Code := bodyOf Try.f4
noncomputable def C4 : Cfg Ty := ⟨fun
  | 24 => some ([], S24)
  | 25 => some ([], S25)
  | 26 => some ([], S26)
  | 27 => some ([], S27)
  | 28 => some ([], S28)
  | 29 => some ([], S29)
  | 30 => some ([], S30)
  | 31 => some ([], S31)
  | 21 => some ([], S21)
  | _ => none, fun
  | 3 => true
  | 500007 => true
  | _ => false, 135, 0⟩
def U4 : Cuts := ⟨fun
  | 0 => some [(3, none), (4, none)]
  | 1 => some [(1, none), (3, none), (4, none), (5, none)]
  | 2 => some [(1, none), (3, none), (4, none), (5, none)]
  | 3 => some [(1, none), (3, none), (4, none), (5, none), (6, none)]
  | 4 => some [(1, none), (3, none), (4, none), (5, none), (6, none)]
  | _ => none, fun
  | 0 => some [(1, none), (3, none), (4, none), (5, none)]
  | 2 => some [(1, none), (3, none), (4, none), (5, none), (6, none)]
  | 4 => some [(1, none), (3, none), (4, none), (5, none), (6, none), (7, none), (8, none)]
  | _ => none, fun
  | 6 => some [0, 2, 1, 3, 4, 5, 6, 8, 7, 9, 10, 11, 12, 13, 15, 14, 16, 17, 18, 19]
  | 18 => some [0, 1, 2, 3, 4, 5, 6, 7, 8, 9, 10, 11, 12, 13, 14, 15, 16, 17, 18, 19, 20, 21, 22, 23, 24, 25, 26, 27, 28, 29, 30, 31, 32, 33, 34, 35]
  | 23 => some [0, 1, 2, 3, 4, 5, 6, 7, 8, 9, 10, 11, 12, 13, 14, 15]
  | _ => none⟩
/-- join 0: live: 3, 4 -/
noncomputable def k4_j0 : List Item := [.code (sndC (sndC (sndC (sndC (sndC (sndC (sndC b4)))))))]
/-- loop 0: live: 1, 3, 4, 5 -/
noncomputable def k4_l0 : List Item := [.code (inC (inC (sndC (fstC (sndC (sndC (sndC (sndC (sndC (sndC b4)))))))))), .inLoop (inC (inC (sndC (fstC (sndC (sndC (sndC (sndC (sndC (sndC b4)))))))))), .inBlock 0, .code (sndC (sndC (sndC (sndC (sndC (sndC (sndC b4)))))))]
/-- join 1: live: 1, 3, 4, 5 -/
noncomputable def k4_j1 : List Item := [.code (sndC (sndC (inC (inC (sndC (fstC (sndC (sndC (sndC (sndC (sndC (sndC b4)))))))))))), .inLoop (inC (inC (sndC (fstC (sndC (sndC (sndC (sndC (sndC (sndC b4)))))))))), .inBlock 0, .code (sndC (sndC (sndC (sndC (sndC (sndC (sndC b4)))))))]
/-- join 2: live: 1, 3, 4, 5 -/
noncomputable def k4_j2 : List Item := [.inBlock 1, .code (sndC (sndC (inC (inC (sndC (fstC (sndC (sndC (sndC (sndC (sndC (sndC b4)))))))))))), .inLoop (inC (inC (sndC (fstC (sndC (sndC (sndC (sndC (sndC (sndC b4)))))))))), .inBlock 0, .code (sndC (sndC (sndC (sndC (sndC (sndC (sndC b4)))))))]
/-- loop 2: live: 1, 3, 4, 5, 6 -/
noncomputable def k4_l2 : List Item := [.code (inC (inC (sndC (inC (fstC (sndC (inC (inC (sndC (fstC (sndC (sndC (sndC (sndC (sndC (sndC b4)))))))))))))))), .inLoop (inC (inC (sndC (inC (fstC (sndC (inC (inC (sndC (fstC (sndC (sndC (sndC (sndC (sndC (sndC b4)))))))))))))))), .inBlock 2, .inBlock 1, .code (sndC (sndC (inC (inC (sndC (fstC (sndC (sndC (sndC (sndC (sndC (sndC b4)))))))))))), .inLoop (inC (inC (sndC (fstC (sndC (sndC (sndC (sndC (sndC (sndC b4)))))))))), .inBlock 0, .code (sndC (sndC (sndC (sndC (sndC (sndC (sndC b4)))))))]
/-- join 3: live: 1, 3, 4, 5, 6 -/
noncomputable def k4_j3 : List Item := [.code (sndC (sndC (inC (inC (sndC (inC (fstC (sndC (inC (inC (sndC (fstC (sndC (sndC (sndC (sndC (sndC (sndC b4)))))))))))))))))), .inLoop (inC (inC (sndC (inC (fstC (sndC (inC (inC (sndC (fstC (sndC (sndC (sndC (sndC (sndC (sndC b4)))))))))))))))), .inBlock 2, .inBlock 1, .code (sndC (sndC (inC (inC (sndC (fstC (sndC (sndC (sndC (sndC (sndC (sndC b4)))))))))))), .inLoop (inC (inC (sndC (fstC (sndC (sndC (sndC (sndC (sndC (sndC b4)))))))))), .inBlock 0, .code (sndC (sndC (sndC (sndC (sndC (sndC (sndC b4)))))))]
/-- join 4: live: 1, 3, 4, 5, 6 -/
noncomputable def k4_j4 : List Item := [.inBlock 3, .code (sndC (sndC (inC (inC (sndC (inC (fstC (sndC (inC (inC (sndC (fstC (sndC (sndC (sndC (sndC (sndC (sndC b4)))))))))))))))))), .inLoop (inC (inC (sndC (inC (fstC (sndC (inC (inC (sndC (fstC (sndC (sndC (sndC (sndC (sndC (sndC b4)))))))))))))))), .inBlock 2, .inBlock 1, .code (sndC (sndC (inC (inC (sndC (fstC (sndC (sndC (sndC (sndC (sndC (sndC b4)))))))))))), .inLoop (inC (inC (sndC (fstC (sndC (sndC (sndC (sndC (sndC (sndC b4)))))))))), .inBlock 0, .code (sndC (sndC (sndC (sndC (sndC (sndC (sndC b4)))))))]
/-- loop 4: live: 1, 3, 4, 5, 6, 7, 8 -/
noncomputable def k4_l4 : List Item := [.code (inC (inC (sndC (sndC (sndC (sndC (inC (fstC (sndC (inC (inC (sndC (inC (fstC (sndC (inC (inC (sndC (fstC (sndC (sndC (sndC (sndC (sndC (sndC b4))))))))))))))))))))))))), .inLoop (inC (inC (sndC (sndC (sndC (sndC (inC (fstC (sndC (inC (inC (sndC (inC (fstC (sndC (inC (inC (sndC (fstC (sndC (sndC (sndC (sndC (sndC (sndC b4))))))))))))))))))))))))), .inBlock 4, .inBlock 3, .code (sndC (sndC (inC (inC (sndC (inC (fstC (sndC (inC (inC (sndC (fstC (sndC (sndC (sndC (sndC (sndC (sndC b4)))))))))))))))))), .inLoop (inC (inC (sndC (inC (fstC (sndC (inC (inC (sndC (fstC (sndC (sndC (sndC (sndC (sndC (sndC b4)))))))))))))))), .inBlock 2, .inBlock 1, .code (sndC (sndC (inC (inC (sndC (fstC (sndC (sndC (sndC (sndC (sndC (sndC b4)))))))))))), .inLoop (inC (inC (sndC (fstC (sndC (sndC (sndC (sndC (sndC (sndC b4)))))))))), .inBlock 0, .code (sndC (sndC (sndC (sndC (sndC (sndC (sndC b4)))))))]
def a4 (f : Func) : List (AV Ty) := [.agg [.v (.string f.name), .v (.bool f.out), .sl false (3 : Nat) f.params, .v (.int .i64 f.result), .sl false (44 : Nat) f.blocks]]
noncomputable def R4 (f : Func) : St Ty → EvR := resT tb C4 Try.f4.results.toList .keep (a4 f)
def s4_l0 (f : Func) (v4 : Int) (v5 : Int) (h0 : List Func) (h1 : ByteArray) (h1_1 : Bool) (h1_2 : List Int) (h1_3 : Int) (h1_4 : List Block) : St Ty := St.mk [(1, .ptr (0) [] (0) (0)), (3, .ptr (1) [] (0) (0)), (4, .v (.int .i64 v4)), (5, .v (.int .i64 v5))] [some (Root.mk (33) false h0), some (Root.mk (33) true [Func.mk h1 h1_1 h1_2 h1_3 h1_4])]
def s4_l2 (f : Func) (v4 : Int) (v5 : Int) (v6 : Int) (h0 : List Func) (h1 : ByteArray) (h1_1 : Bool) (h1_2 : List Int) (h1_3 : Int) (h1_4 : List Block) : St Ty := St.mk [(1, .ptr (0) [] (0) (0)), (3, .ptr (1) [] (0) (0)), (4, .v (.int .i64 v4)), (5, .v (.int .i64 v5)), (6, .v (.int .i64 v6))] [some (Root.mk (33) false h0), some (Root.mk (33) true [Func.mk h1 h1_1 h1_2 h1_3 h1_4])]
def s4_j0 (f : Func) (v4 : Int) (h0 : ByteArray) (h0_1 : Bool) (h0_2 : List Int) (h0_3 : Int) (h0_4 : List Block) : St Ty := St.mk [(3, .ptr (0) [] (0) (0)), (4, .v (.int .i64 v4))] [some (Root.mk (33) true [Func.mk h0 h0_1 h0_2 h0_3 h0_4])]
def s4_l4 (f : Func) (v4 : Int) (v5 : Int) (v6 : Int) (v7 : Int) (v7_1 : Int) (v7_2 : Int) (v7_3 : Int) (v7_4 : Int) (v7_5 : Nat) (v7_6 : Nat) (v7_7 : Bool) (v7_8 : Nat) (v7_9 : Nat) (v7_10 : Bool) (v8 : Int) (h0 : List Func) (h1 : ByteArray) (h1_1 : Bool) (h1_2 : List Int) (h1_3 : Int) (h1_4 : List Block) : St Ty := St.mk [(1, .ptr (0) [] (0) (0)), (3, .ptr (1) [] (0) (0)), (4, .v (.int .i64 v4)), (5, .v (.int .i64 v5)), (6, .v (.int .i64 v6)), (7, AV.vb [.v (.int .i64 v7), .v (.int .i64 v7_1), .v (.int .i64 v7_2), .v (.int .i64 v7_3), .v (.int .i64 v7_4), .ref (1) [(0, 4), (v7_5, 0), (v7_6, 5)] none v7_7, .ref (1) [(0, 4), (v7_8, 0), (v7_9, 6)] none v7_10]), (8, .v (.int .i64 v8))] [some (Root.mk (33) false h0), some (Root.mk (33) true [Func.mk h1 h1_1 h1_2 h1_3 h1_4])]
def s4_j2 (f : Func) (v4 : Int) (v5 : Int) (h0 : List Func) (h1 : ByteArray) (h1_1 : Bool) (h1_2 : List Int) (h1_3 : Int) (h1_4 : List Block) : St Ty := St.mk [(1, .ptr (0) [] (0) (0)), (3, .ptr (1) [] (0) (0)), (4, .v (.int .i64 v4)), (5, .v (.int .i64 v5))] [some (Root.mk (33) false h0), some (Root.mk (33) true [Func.mk h1 h1_1 h1_2 h1_3 h1_4])]
def s4_j4 (f : Func) (v4 : Int) (v5 : Int) (v6 : Int) (h0 : List Func) (h1 : ByteArray) (h1_1 : Bool) (h1_2 : List Int) (h1_3 : Int) (h1_4 : List Block) : St Ty := St.mk [(1, .ptr (0) [] (0) (0)), (3, .ptr (1) [] (0) (0)), (4, .v (.int .i64 v4)), (5, .v (.int .i64 v5)), (6, .v (.int .i64 v6))] [some (Root.mk (33) false h0), some (Root.mk (33) true [Func.mk h1 h1_1 h1_2 h1_3 h1_4])]
def s4_j1 (f : Func) (v4 : Int) (v5 : Int) (h0 : List Func) (h1 : ByteArray) (h1_1 : Bool) (h1_2 : List Int) (h1_3 : Int) (h1_4 : List Block) : St Ty := St.mk [(1, .ptr (0) [] (0) (0)), (3, .ptr (1) [] (0) (0)), (4, .v (.int .i64 v4)), (5, .v (.int .i64 v5))] [some (Root.mk (33) false h0), some (Root.mk (33) true [Func.mk h1 h1_1 h1_2 h1_3 h1_4])]
def s4_j3 (f : Func) (v4 : Int) (v5 : Int) (v6 : Int) (h0 : List Func) (h1 : ByteArray) (h1_1 : Bool) (h1_2 : List Int) (h1_3 : Int) (h1_4 : List Block) : St Ty := St.mk [(1, .ptr (0) [] (0) (0)), (3, .ptr (1) [] (0) (0)), (4, .v (.int .i64 v4)), (5, .v (.int .i64 v5)), (6, .v (.int .i64 v6))] [some (Root.mk (33) false h0), some (Root.mk (33) true [Func.mk h1 h1_1 h1_2 h1_3 h1_4])]
theorem e4 (J : List Item → St Ty → EvR) (f : Func) : run tb C4 U4 J (R4 f) 4096 [.code b4] ⟨slotsA (a4 f) 0 0, heapA (a4 f)⟩ =
    if wideF (Func.mk f.name f.out f.params f.result f.blocks) then
     if (!lightB (Func.mk f.name f.out f.params f.result f.blocks)) = true then
      some (.v (.bool true), [.dead])
     else
      if okF (Func.mk f.name f.out f.params f.result f.blocks) then
       if okF (Func.mk f.name f.out f.params f.result (neatB f.params.length f.blocks)) then
        if okF (Func.mk f.name f.out f.params f.result (neatB f.params.length (neatB f.params.length f.blocks))) then
         if (!sameFun (Func.mk f.name f.out f.params f.result (neatB f.params.length (neatB f.params.length f.blocks))) (Func.mk f.name f.out f.params f.result (neatB f.params.length f.blocks))) = false then
          if okF (Func.mk f.name f.out f.params f.result (neatB f.params.length f.blocks)) then
           if okF (Func.mk f.name f.out f.params f.result f.blocks) then
            if ((↑(szT (neatB f.params.length f.blocks)) : Int) != (↑(szT f.blocks) : Int)) = false then
             if okF (Func.mk f.name f.out f.params f.result (neatB f.params.length f.blocks)) then
              if okF (Func.mk f.name f.out f.params f.result f.blocks) then
               if (typesOf (Func.mk f.name f.out f.params f.result (neatB f.params.length f.blocks))).length ≤ (4611686018427387904 : Nat) then
                if (!same3 (typesOf (Func.mk f.name f.out f.params f.result (neatB f.params.length f.blocks))) (typesOf (Func.mk f.name f.out f.params f.result f.blocks))) = true then
                 some (.v (.bool false), [.dead])
                else
                 J k4_l0 (s4_l0 f ((↑f.params.length : Int)) (0 : Int) ([Func.mk f.name f.out f.params f.result f.blocks]) (f.name) (f.out) (f.params) (f.result) (neatB f.params.length f.blocks))
               else
                none
              else
               none
             else
              none
            else
             some (.v (.bool false), [.dead])
           else
            none
          else
           none
         else
          some (.v (.bool false), [.dead])
        else
         none
       else
        none
      else
       none
    else
     none := by kernel_rfl
theorem e4_l0 (J : List Item → St Ty → EvR) (f : Func) (v4 : Int) (v5 : Int) (h0 : List Func) (h1 : ByteArray) (h1_1 : Bool) (h1_2 : List Int) (h1_3 : Int) (h1_4 : List Block) : run tb C4 U4 J (R4 f) 4096 k4_l0 (s4_l0 f v4 v5 h0 h1 h1_1 h1_2 h1_3 h1_4) =
    if decide (v5 < (↑h1_4.length : Int)) = true then
     J k4_l2 (s4_l2 f (v4) (v5) (0 : Int) (h0) (h1) (h1_1) (h1_2) (h1_3) (h1_4))
    else
     J k4_j0 (s4_j0 f (v4) (h1) (h1_1) (h1_2) (h1_3) (h1_4)) := by kernel_rfl
theorem e4_l2 (J : List Item → St Ty → EvR) (f : Func) (v4 : Int) (v5 : Int) (v6 : Int) (h0 : List Func) (h1 : ByteArray) (h1_1 : Bool) (h1_2 : List Int) (h1_3 : Int) (h1_4 : List Block) : run tb C4 U4 J (R4 f) 4096 k4_l2 (s4_l2 f v4 v5 v6 h0 h1 h1_1 h1_2 h1_3 h1_4) =
    if (0 : Int) ≤ v5 then
     if v5 < (↑h1_4.length : Int) then
      if decide (v6 < (↑(h1_4.getD ((0 : Nat) + v5.toNat) (Block.mk [])).ins.length : Int)) = true then
       if (0 : Int) ≤ v5 then
        if v5 < (↑h1_4.length : Int) then
         if (0 : Int) ≤ v6 then
          if v6 < (↑(h1_4.getD ((0 : Nat) + v5.toNat) (Block.mk [])).ins.length : Int) then
           if ((rdI h1_4 ((0 : Nat) + v5.toNat) ((0 : Nat) + v6.toNat)).type_ != (0 : Int)) = true then
            if ((rdI h1_4 ((0 : Nat) + v5.toNat) ((0 : Nat) + v6.toNat)).type_ != (0 : Int)) = true then
             if ((rdI h1_4 ((0 : Nat) + v5.toNat) ((0 : Nat) + v6.toNat)).to_ != IntKind.i64.wrap (v4 + (1 : Int))) = false then
              if ((rdI h1_4 ((0 : Nat) + v5.toNat) ((0 : Nat) + v6.toNat)).type_ == (0 : Int)) = true then
               if ((rdI h1_4 ((0 : Nat) + v5.toNat) ((0 : Nat) + v6.toNat)).to_ != (0 : Int)) = false then
                if (0 : Int) ≤ v5 then
                 if v5 < (↑(h0.getD (0) (Func.mk ByteArray.empty false [] (0 : Int) [])).blocks.length : Int) then
                  if (0 : Int) ≤ v6 then
                   if v6 < (↑((h0.getD (0) (Func.mk ByteArray.empty false [] (0 : Int) [])).blocks.getD v5.toNat (Block.mk [])).ins.length : Int) then
                    if ((↑(rdI h1_4 ((0 : Nat) + v5.toNat) ((0 : Nat) + v6.toNat)).args.length : Int) != (↑(rdI (h0.getD (0) (Func.mk ByteArray.empty false [] (0 : Int) [])).blocks v5.toNat v6.toNat).args.length : Int)) = true then
                     some (.v (.bool false), [.dead])
                    else
                     J k4_l4 (s4_l4 f (IntKind.i64.wrap (v4 + (1 : Int))) (v5) (v6) ((rdI h1_4 ((0 : Nat) + v5.toNat) ((0 : Nat) + v6.toNat)).op) ((rdI h1_4 ((0 : Nat) + v5.toNat) ((0 : Nat) + v6.toNat)).type_) ((rdI h1_4 ((0 : Nat) + v5.toNat) ((0 : Nat) + v6.toNat)).to_) ((rdI h1_4 ((0 : Nat) + v5.toNat) ((0 : Nat) + v6.toNat)).sym_) ((rdI h1_4 ((0 : Nat) + v5.toNat) ((0 : Nat) + v6.toNat)).num) ((0 : Nat) + v5.toNat) ((0 : Nat) + v6.toNat) (false) ((0 : Nat) + v5.toNat) ((0 : Nat) + v6.toNat) (false) (0 : Int) (h0) (h1) (h1_1) (h1_2) (h1_3) (h1_4))
                   else
                    none
                  else
                   none
                 else
                  none
                else
                 none
               else
                some (.v (.bool false), [.dead])
              else
               if (0 : Int) ≤ v5 then
                if v5 < (↑(h0.getD (0) (Func.mk ByteArray.empty false [] (0 : Int) [])).blocks.length : Int) then
                 if (0 : Int) ≤ v6 then
                  if v6 < (↑((h0.getD (0) (Func.mk ByteArray.empty false [] (0 : Int) [])).blocks.getD v5.toNat (Block.mk [])).ins.length : Int) then
                   if ((↑(rdI h1_4 ((0 : Nat) + v5.toNat) ((0 : Nat) + v6.toNat)).args.length : Int) != (↑(rdI (h0.getD (0) (Func.mk ByteArray.empty false [] (0 : Int) [])).blocks v5.toNat v6.toNat).args.length : Int)) = true then
                    some (.v (.bool false), [.dead])
                   else
                    J k4_l4 (s4_l4 f (IntKind.i64.wrap (v4 + (1 : Int))) (v5) (v6) ((rdI h1_4 ((0 : Nat) + v5.toNat) ((0 : Nat) + v6.toNat)).op) ((rdI h1_4 ((0 : Nat) + v5.toNat) ((0 : Nat) + v6.toNat)).type_) ((rdI h1_4 ((0 : Nat) + v5.toNat) ((0 : Nat) + v6.toNat)).to_) ((rdI h1_4 ((0 : Nat) + v5.toNat) ((0 : Nat) + v6.toNat)).sym_) ((rdI h1_4 ((0 : Nat) + v5.toNat) ((0 : Nat) + v6.toNat)).num) ((0 : Nat) + v5.toNat) ((0 : Nat) + v6.toNat) (false) ((0 : Nat) + v5.toNat) ((0 : Nat) + v6.toNat) (false) (0 : Int) (h0) (h1) (h1_1) (h1_2) (h1_3) (h1_4))
                  else
                   none
                 else
                  none
                else
                 none
               else
                none
             else
              some (.v (.bool false), [.dead])
            else
             if ((rdI h1_4 ((0 : Nat) + v5.toNat) ((0 : Nat) + v6.toNat)).type_ == (0 : Int)) = true then
              if ((rdI h1_4 ((0 : Nat) + v5.toNat) ((0 : Nat) + v6.toNat)).to_ != (0 : Int)) = false then
               if (0 : Int) ≤ v5 then
                if v5 < (↑(h0.getD (0) (Func.mk ByteArray.empty false [] (0 : Int) [])).blocks.length : Int) then
                 if (0 : Int) ≤ v6 then
                  if v6 < (↑((h0.getD (0) (Func.mk ByteArray.empty false [] (0 : Int) [])).blocks.getD v5.toNat (Block.mk [])).ins.length : Int) then
                   if ((↑(rdI h1_4 ((0 : Nat) + v5.toNat) ((0 : Nat) + v6.toNat)).args.length : Int) != (↑(rdI (h0.getD (0) (Func.mk ByteArray.empty false [] (0 : Int) [])).blocks v5.toNat v6.toNat).args.length : Int)) = true then
                    some (.v (.bool false), [.dead])
                   else
                    J k4_l4 (s4_l4 f (IntKind.i64.wrap (v4 + (1 : Int))) (v5) (v6) ((rdI h1_4 ((0 : Nat) + v5.toNat) ((0 : Nat) + v6.toNat)).op) ((rdI h1_4 ((0 : Nat) + v5.toNat) ((0 : Nat) + v6.toNat)).type_) ((rdI h1_4 ((0 : Nat) + v5.toNat) ((0 : Nat) + v6.toNat)).to_) ((rdI h1_4 ((0 : Nat) + v5.toNat) ((0 : Nat) + v6.toNat)).sym_) ((rdI h1_4 ((0 : Nat) + v5.toNat) ((0 : Nat) + v6.toNat)).num) ((0 : Nat) + v5.toNat) ((0 : Nat) + v6.toNat) (false) ((0 : Nat) + v5.toNat) ((0 : Nat) + v6.toNat) (false) (0 : Int) (h0) (h1) (h1_1) (h1_2) (h1_3) (h1_4))
                  else
                   none
                 else
                  none
                else
                 none
               else
                none
              else
               some (.v (.bool false), [.dead])
             else
              if (0 : Int) ≤ v5 then
               if v5 < (↑(h0.getD (0) (Func.mk ByteArray.empty false [] (0 : Int) [])).blocks.length : Int) then
                if (0 : Int) ≤ v6 then
                 if v6 < (↑((h0.getD (0) (Func.mk ByteArray.empty false [] (0 : Int) [])).blocks.getD v5.toNat (Block.mk [])).ins.length : Int) then
                  if ((↑(rdI h1_4 ((0 : Nat) + v5.toNat) ((0 : Nat) + v6.toNat)).args.length : Int) != (↑(rdI (h0.getD (0) (Func.mk ByteArray.empty false [] (0 : Int) [])).blocks v5.toNat v6.toNat).args.length : Int)) = true then
                   some (.v (.bool false), [.dead])
                  else
                   J k4_l4 (s4_l4 f (IntKind.i64.wrap (v4 + (1 : Int))) (v5) (v6) ((rdI h1_4 ((0 : Nat) + v5.toNat) ((0 : Nat) + v6.toNat)).op) ((rdI h1_4 ((0 : Nat) + v5.toNat) ((0 : Nat) + v6.toNat)).type_) ((rdI h1_4 ((0 : Nat) + v5.toNat) ((0 : Nat) + v6.toNat)).to_) ((rdI h1_4 ((0 : Nat) + v5.toNat) ((0 : Nat) + v6.toNat)).sym_) ((rdI h1_4 ((0 : Nat) + v5.toNat) ((0 : Nat) + v6.toNat)).num) ((0 : Nat) + v5.toNat) ((0 : Nat) + v6.toNat) (false) ((0 : Nat) + v5.toNat) ((0 : Nat) + v6.toNat) (false) (0 : Int) (h0) (h1) (h1_1) (h1_2) (h1_3) (h1_4))
                 else
                  none
                else
                 none
               else
                none
              else
               none
           else
            if ((rdI h1_4 ((0 : Nat) + v5.toNat) ((0 : Nat) + v6.toNat)).type_ != (0 : Int)) = true then
             if ((rdI h1_4 ((0 : Nat) + v5.toNat) ((0 : Nat) + v6.toNat)).to_ != v4) = false then
              if ((rdI h1_4 ((0 : Nat) + v5.toNat) ((0 : Nat) + v6.toNat)).type_ == (0 : Int)) = true then
               if ((rdI h1_4 ((0 : Nat) + v5.toNat) ((0 : Nat) + v6.toNat)).to_ != (0 : Int)) = false then
                if (0 : Int) ≤ v5 then
                 if v5 < (↑(h0.getD (0) (Func.mk ByteArray.empty false [] (0 : Int) [])).blocks.length : Int) then
                  if (0 : Int) ≤ v6 then
                   if v6 < (↑((h0.getD (0) (Func.mk ByteArray.empty false [] (0 : Int) [])).blocks.getD v5.toNat (Block.mk [])).ins.length : Int) then
                    if ((↑(rdI h1_4 ((0 : Nat) + v5.toNat) ((0 : Nat) + v6.toNat)).args.length : Int) != (↑(rdI (h0.getD (0) (Func.mk ByteArray.empty false [] (0 : Int) [])).blocks v5.toNat v6.toNat).args.length : Int)) = true then
                     some (.v (.bool false), [.dead])
                    else
                     J k4_l4 (s4_l4 f (v4) (v5) (v6) ((rdI h1_4 ((0 : Nat) + v5.toNat) ((0 : Nat) + v6.toNat)).op) ((rdI h1_4 ((0 : Nat) + v5.toNat) ((0 : Nat) + v6.toNat)).type_) ((rdI h1_4 ((0 : Nat) + v5.toNat) ((0 : Nat) + v6.toNat)).to_) ((rdI h1_4 ((0 : Nat) + v5.toNat) ((0 : Nat) + v6.toNat)).sym_) ((rdI h1_4 ((0 : Nat) + v5.toNat) ((0 : Nat) + v6.toNat)).num) ((0 : Nat) + v5.toNat) ((0 : Nat) + v6.toNat) (false) ((0 : Nat) + v5.toNat) ((0 : Nat) + v6.toNat) (false) (0 : Int) (h0) (h1) (h1_1) (h1_2) (h1_3) (h1_4))
                   else
                    none
                  else
                   none
                 else
                  none
                else
                 none
               else
                some (.v (.bool false), [.dead])
              else
               if (0 : Int) ≤ v5 then
                if v5 < (↑(h0.getD (0) (Func.mk ByteArray.empty false [] (0 : Int) [])).blocks.length : Int) then
                 if (0 : Int) ≤ v6 then
                  if v6 < (↑((h0.getD (0) (Func.mk ByteArray.empty false [] (0 : Int) [])).blocks.getD v5.toNat (Block.mk [])).ins.length : Int) then
                   if ((↑(rdI h1_4 ((0 : Nat) + v5.toNat) ((0 : Nat) + v6.toNat)).args.length : Int) != (↑(rdI (h0.getD (0) (Func.mk ByteArray.empty false [] (0 : Int) [])).blocks v5.toNat v6.toNat).args.length : Int)) = true then
                    some (.v (.bool false), [.dead])
                   else
                    J k4_l4 (s4_l4 f (v4) (v5) (v6) ((rdI h1_4 ((0 : Nat) + v5.toNat) ((0 : Nat) + v6.toNat)).op) ((rdI h1_4 ((0 : Nat) + v5.toNat) ((0 : Nat) + v6.toNat)).type_) ((rdI h1_4 ((0 : Nat) + v5.toNat) ((0 : Nat) + v6.toNat)).to_) ((rdI h1_4 ((0 : Nat) + v5.toNat) ((0 : Nat) + v6.toNat)).sym_) ((rdI h1_4 ((0 : Nat) + v5.toNat) ((0 : Nat) + v6.toNat)).num) ((0 : Nat) + v5.toNat) ((0 : Nat) + v6.toNat) (false) ((0 : Nat) + v5.toNat) ((0 : Nat) + v6.toNat) (false) (0 : Int) (h0) (h1) (h1_1) (h1_2) (h1_3) (h1_4))
                  else
                   none
                 else
                  none
                else
                 none
               else
                none
             else
              some (.v (.bool false), [.dead])
            else
             if ((rdI h1_4 ((0 : Nat) + v5.toNat) ((0 : Nat) + v6.toNat)).type_ == (0 : Int)) = true then
              if ((rdI h1_4 ((0 : Nat) + v5.toNat) ((0 : Nat) + v6.toNat)).to_ != (0 : Int)) = false then
               if (0 : Int) ≤ v5 then
                if v5 < (↑(h0.getD (0) (Func.mk ByteArray.empty false [] (0 : Int) [])).blocks.length : Int) then
                 if (0 : Int) ≤ v6 then
                  if v6 < (↑((h0.getD (0) (Func.mk ByteArray.empty false [] (0 : Int) [])).blocks.getD v5.toNat (Block.mk [])).ins.length : Int) then
                   if ((↑(rdI h1_4 ((0 : Nat) + v5.toNat) ((0 : Nat) + v6.toNat)).args.length : Int) != (↑(rdI (h0.getD (0) (Func.mk ByteArray.empty false [] (0 : Int) [])).blocks v5.toNat v6.toNat).args.length : Int)) = true then
                    some (.v (.bool false), [.dead])
                   else
                    J k4_l4 (s4_l4 f (v4) (v5) (v6) ((rdI h1_4 ((0 : Nat) + v5.toNat) ((0 : Nat) + v6.toNat)).op) ((rdI h1_4 ((0 : Nat) + v5.toNat) ((0 : Nat) + v6.toNat)).type_) ((rdI h1_4 ((0 : Nat) + v5.toNat) ((0 : Nat) + v6.toNat)).to_) ((rdI h1_4 ((0 : Nat) + v5.toNat) ((0 : Nat) + v6.toNat)).sym_) ((rdI h1_4 ((0 : Nat) + v5.toNat) ((0 : Nat) + v6.toNat)).num) ((0 : Nat) + v5.toNat) ((0 : Nat) + v6.toNat) (false) ((0 : Nat) + v5.toNat) ((0 : Nat) + v6.toNat) (false) (0 : Int) (h0) (h1) (h1_1) (h1_2) (h1_3) (h1_4))
                  else
                   none
                 else
                  none
                else
                 none
               else
                none
              else
               some (.v (.bool false), [.dead])
             else
              if (0 : Int) ≤ v5 then
               if v5 < (↑(h0.getD (0) (Func.mk ByteArray.empty false [] (0 : Int) [])).blocks.length : Int) then
                if (0 : Int) ≤ v6 then
                 if v6 < (↑((h0.getD (0) (Func.mk ByteArray.empty false [] (0 : Int) [])).blocks.getD v5.toNat (Block.mk [])).ins.length : Int) then
                  if ((↑(rdI h1_4 ((0 : Nat) + v5.toNat) ((0 : Nat) + v6.toNat)).args.length : Int) != (↑(rdI (h0.getD (0) (Func.mk ByteArray.empty false [] (0 : Int) [])).blocks v5.toNat v6.toNat).args.length : Int)) = true then
                   some (.v (.bool false), [.dead])
                  else
                   J k4_l4 (s4_l4 f (v4) (v5) (v6) ((rdI h1_4 ((0 : Nat) + v5.toNat) ((0 : Nat) + v6.toNat)).op) ((rdI h1_4 ((0 : Nat) + v5.toNat) ((0 : Nat) + v6.toNat)).type_) ((rdI h1_4 ((0 : Nat) + v5.toNat) ((0 : Nat) + v6.toNat)).to_) ((rdI h1_4 ((0 : Nat) + v5.toNat) ((0 : Nat) + v6.toNat)).sym_) ((rdI h1_4 ((0 : Nat) + v5.toNat) ((0 : Nat) + v6.toNat)).num) ((0 : Nat) + v5.toNat) ((0 : Nat) + v6.toNat) (false) ((0 : Nat) + v5.toNat) ((0 : Nat) + v6.toNat) (false) (0 : Int) (h0) (h1) (h1_1) (h1_2) (h1_3) (h1_4))
                 else
                  none
                else
                 none
               else
                none
              else
               none
          else
           none
         else
          none
        else
         none
       else
        none
      else
       J k4_j2 (s4_j2 f (v4) (v5) (h0) (h1) (h1_1) (h1_2) (h1_3) (h1_4))
     else
      none
    else
     none := by kernel_rfl
theorem e4_j0 (J : List Item → St Ty → EvR) (f : Func) (v4 : Int) (h0 : ByteArray) (h0_1 : Bool) (h0_2 : List Int) (h0_3 : Int) (h0_4 : List Block) : run tb C4 U4 J (R4 f) 4096 k4_j0 (s4_j0 f v4 h0 h0_1 h0_2 h0_3 h0_4) =
    if okF (Func.mk h0 h0_1 h0_2 h0_3 h0_4) then
     some (.v (.bool ((↑(typesOf (Func.mk h0 h0_1 h0_2 h0_3 h0_4)).length : Int) - (1 : Int) == v4)), [.dead])
    else
     none := by kernel_rfl
theorem e4_l4 (J : List Item → St Ty → EvR) (f : Func) (v4 : Int) (v5 : Int) (v6 : Int) (v7 : Int) (v7_1 : Int) (v7_2 : Int) (v7_3 : Int) (v7_4 : Int) (v7_5 : Nat) (v7_6 : Nat) (v7_7 : Bool) (v7_8 : Nat) (v7_9 : Nat) (v7_10 : Bool) (v8 : Int) (h0 : List Func) (h1 : ByteArray) (h1_1 : Bool) (h1_2 : List Int) (h1_3 : Int) (h1_4 : List Block) : run tb C4 U4 J (R4 f) 4096 k4_l4 (s4_l4 f v4 v5 v6 v7 v7_1 v7_2 v7_3 v7_4 v7_5 v7_6 v7_7 v7_8 v7_9 v7_10 v8 h0 h1 h1_1 h1_2 h1_3 h1_4) =
    if decide (v8 < (↑(rdI h1_4 v7_5 v7_6).args.length : Int)) = true then
     if (0 : Int) ≤ v8 then
      if v8 < (↑(rdI h1_4 v7_5 v7_6).args.length : Int) then
       if decide ((rdI h1_4 v7_5 v7_6).args.getD ((0 : Nat) + v8.toNat) (0 : Int) < (0 : Int)) = false then
        if (0 : Int) ≤ v8 then
         if v8 < (↑(rdI h1_4 v7_5 v7_6).args.length : Int) then
          if okF (Func.mk (h0.getD (0) (Func.mk ByteArray.empty false [] (0 : Int) [])).name (h0.getD (0) (Func.mk ByteArray.empty false [] (0 : Int) [])).out (h0.getD (0) (Func.mk ByteArray.empty false [] (0 : Int) [])).params (h0.getD (0) (Func.mk ByteArray.empty false [] (0 : Int) [])).result (h0.getD (0) (Func.mk ByteArray.empty false [] (0 : Int) [])).blocks) then
           if decide ((rdI h1_4 v7_5 v7_6).args.getD ((0 : Nat) + v8.toNat) (0 : Int) > (↑(typesOf (Func.mk (h0.getD (0) (Func.mk ByteArray.empty false [] (0 : Int) [])).name (h0.getD (0) (Func.mk ByteArray.empty false [] (0 : Int) [])).out (h0.getD (0) (Func.mk ByteArray.empty false [] (0 : Int) [])).params (h0.getD (0) (Func.mk ByteArray.empty false [] (0 : Int) [])).result (h0.getD (0) (Func.mk ByteArray.empty false [] (0 : Int) [])).blocks)).length : Int) - (1 : Int)) = true then
            some (.v (.bool false), [.dead])
           else
            J k4_l4 (s4_l4 f (v4) (v5) (v6) (v7) (v7_1) (v7_2) (v7_3) (v7_4) (v7_5) (v7_6) (v7_7) (v7_8) (v7_9) (v7_10) (IntKind.i64.wrap (v8 + (1 : Int))) (h0) (h1) (h1_1) (h1_2) (h1_3) (h1_4))
          else
           none
         else
          none
        else
         none
       else
        some (.v (.bool false), [.dead])
      else
       none
     else
      none
    else
     J k4_j4 (s4_j4 f (v4) (v5) (v6) (h0) (h1) (h1_1) (h1_2) (h1_3) (h1_4)) := by kernel_rfl
theorem e4_j2 (J : List Item → St Ty → EvR) (f : Func) (v4 : Int) (v5 : Int) (h0 : List Func) (h1 : ByteArray) (h1_1 : Bool) (h1_2 : List Int) (h1_3 : Int) (h1_4 : List Block) : run tb C4 U4 J (R4 f) 4096 k4_j2 (s4_j2 f v4 v5 h0 h1 h1_1 h1_2 h1_3 h1_4) =
    J k4_j1 (s4_j1 f (v4) (v5) (h0) (h1) (h1_1) (h1_2) (h1_3) (h1_4)) := by kernel_rfl
theorem e4_j4 (J : List Item → St Ty → EvR) (f : Func) (v4 : Int) (v5 : Int) (v6 : Int) (h0 : List Func) (h1 : ByteArray) (h1_1 : Bool) (h1_2 : List Int) (h1_3 : Int) (h1_4 : List Block) : run tb C4 U4 J (R4 f) 4096 k4_j4 (s4_j4 f v4 v5 v6 h0 h1 h1_1 h1_2 h1_3 h1_4) =
    J k4_j3 (s4_j3 f (v4) (v5) (v6) (h0) (h1) (h1_1) (h1_2) (h1_3) (h1_4)) := by kernel_rfl
theorem e4_j1 (J : List Item → St Ty → EvR) (f : Func) (v4 : Int) (v5 : Int) (h0 : List Func) (h1 : ByteArray) (h1_1 : Bool) (h1_2 : List Int) (h1_3 : Int) (h1_4 : List Block) : run tb C4 U4 J (R4 f) 4096 k4_j1 (s4_j1 f v4 v5 h0 h1 h1_1 h1_2 h1_3 h1_4) =
    J k4_l0 (s4_l0 f (v4) (IntKind.i64.wrap (v5 + (1 : Int))) (h0) (h1) (h1_1) (h1_2) (h1_3) (h1_4)) := by kernel_rfl
theorem e4_j3 (J : List Item → St Ty → EvR) (f : Func) (v4 : Int) (v5 : Int) (v6 : Int) (h0 : List Func) (h1 : ByteArray) (h1_1 : Bool) (h1_2 : List Int) (h1_3 : Int) (h1_4 : List Block) : run tb C4 U4 J (R4 f) 4096 k4_j3 (s4_j3 f v4 v5 v6 h0 h1 h1_1 h1_2 h1_3 h1_4) =
    J k4_l2 (s4_l2 f (v4) (v5) (IntKind.i64.wrap (v6 + (1 : Int))) (h0) (h1) (h1_1) (h1_2) (h1_3) (h1_4)) := by kernel_rfl

theorem in4 : Entered 4 := ⟨Try.f4, b4, by kernel_rfl, by kernel_rfl, by kernel_rfl⟩
theorem fn4 (f : Ev.Func) {res : AV Ty} {outs : List (AV Ty)} (h : Ends C4 U4 (R4 f) [.code b4] ⟨slotsA (a4 f) 0 0, heapA (a4 f)⟩ (some (res, outs))) : CallOk tb Try.prog 4 (a4 f) res outs := by
  obtain ⟨n0, hn⟩ := h
  exact fn_ok (C := C4) (U := U4) (n := 0 + n0) (q := .keep) tbOk good (fun f mu S h => by
    unfold C4 at h
    simp only at h
    split at h
    · cases h; exact ⟨in24, S24_ok⟩
    · cases h; exact ⟨in25, S25_ok⟩
    · cases h; exact ⟨in26, S26_ok⟩
    · cases h; exact ⟨in27, S27_ok⟩
    · cases h; exact ⟨in28, S28_ok⟩
    · cases h; exact ⟨in29, S29_ok⟩
    · cases h; exact ⟨in30, S30_ok⟩
    · cases h; exact ⟨in31, S31_ok⟩
    · cases h; exact ⟨in21, S21_ok⟩
    · cases h) mixed (fn := Try.f4) (body := b4) (by kernel_rfl) (by kernel_rfl) rfl rfl (by show 1 ≤ 135; omega) (hn 0)
section
variable {f : Ev.Func}
abbrev la (f : Ev.Func) (n A k : Nat) (G : List Ev.Block) : St Ty := s4_l2 f n A k [f] f.name f.out f.params f.result G
abbrev lb (f : Ev.Func) (n A k : Nat) (x : Ev.Ins) (j : Nat) (G : List Ev.Block) : St Ty := s4_l4 f n A k x.op x.type_ x.to_ x.sym_ x.num A k false A k false j [f] f.name f.out f.params f.result G
theorem Law.arg (h : okF f) {n : Nat} {A C : List Ev.Block} {P Q : List Ev.Ins} {x : Ev.Ins} (hx : x.args.length ≤ 1000) {j : Nat} (hj : j < x.args.length) (hv : 0 ≤ x.args.getD j 0 ∧ x.args.getD j 0 ≤ (typesOf f).length - 1) :
    Goes C4 U4 (R4 f) k4_l4 (lb f n A.length P.length x j (A ++ Block.mk (P ++ x :: Q) :: C)) k4_l4 (lb f n A.length P.length x (j + 1) (A ++ Block.mk (P ++ x :: Q) :: C)) := .step fun J => by
  have e : (⟨f.name, f.out, f.params, f.result, f.blocks⟩ : Ev.Func) = f := rfl
  obtain ⟨v1, v2⟩ := hv
  rw [lb, e4_l4]
  simp only [Int.toNat_natCast, Nat.zero_add, rdI_mid, List.getD_cons_zero]
  rw [e]
  simp (disch := first | omega | assumption | (rw [decide_eq_true_eq]; omega) | (rw [decide_eq_false_iff_not]; omega)) only [↓if_pos, ↓if_neg, if_true, if_false, wrap_up, Int.toNat_natCast, Nat.zero_add]
  rfl
theorem Law.args (h : okF f) {n : Nat} {A C : List Ev.Block} {P Q : List Ev.Ins} {x : Ev.Ins} (hx : x.args.length ≤ 1000) (hv : ∀ v, v ∈ x.args → 0 ≤ v ∧ v ≤ (typesOf f).length - 1) (hP : P.length ≤ 1000) :
    Goes C4 U4 (R4 f) k4_l4 (lb f n A.length P.length x (0 : Nat) (A ++ Block.mk (P ++ x :: Q) :: C)) k4_l2 (la f n A.length (P.length + 1) (A ++ Block.mk (P ++ x :: Q) :: C)) := by
  refine Goes.trans (Goes.upto (fun j => lb f n A.length P.length x j (A ++ Block.mk (P ++ x :: Q) :: C)) x.args.length (fun j hj => Law.arg h hx hj (hv _ (getD_mem hj))) _ (Nat.le_refl _)) ?_
  refine Goes.trans (k' := k4_j4) (s' := s4_j4 f n A.length P.length [f] f.name f.out f.params f.result (A ++ Block.mk (P ++ x :: Q) :: C)) (.step fun J => ?_) (Goes.trans (.step fun J => e4_j4 ..) (.step fun J => ?_))
  · rw [lb, e4_l4, rdI_mid]
    simp (disch := first | omega | assumption | (rw [decide_eq_true_eq]; omega) | (rw [decide_eq_false_iff_not]; omega)) only [↓if_pos, ↓if_neg, if_true, if_false, wrap_up, Int.toNat_natCast, Nat.zero_add]
  · rw [e4_j3]
    simp (disch := first | omega | assumption | (rw [decide_eq_true_eq]; omega) | (rw [decide_eq_false_iff_not]; omega)) only [↓if_pos, ↓if_neg, if_true, if_false, wrap_up, Int.toNat_natCast, Nat.zero_add]
    rfl
theorem Law.one (h : okF f) {n : Nat} {A C : List Ev.Block} {P Q : List Ev.Ins} {i x : Ev.Ins} (hn : n ≤ 2000000) (hA : A.length ≤ 1000) (hP : P.length ≤ 1000) (f1 : A.length < f.blocks.length) (f2 : P.length < (f.blocks.getD A.length (Block.mk [])).ins.length) (f3 : rdI f.blocks A.length P.length = i)
    (x1 : x.type_ = i.type_) (x2 : x.to_ = if i.type_ = 0 then 0 else ((n + 1 : Nat) : Int)) (x3 : x.args.length = i.args.length) (hx : x.args.length ≤ 1000) (hv : ∀ v, v ∈ x.args → 0 ≤ v ∧ v ≤ (typesOf f).length - 1) :
    Goes C4 U4 (R4 f) k4_l2 (la f n A.length P.length (A ++ Block.mk (P ++ x :: Q) :: C)) k4_l2 (la f (step1 n i) A.length (P.length + 1) (A ++ Block.mk (P ++ x :: Q) :: C)) := by
  have a1 : A.length < (A ++ Block.mk (P ++ x :: Q) :: C).length := by simp only [List.length_append, List.length_cons]; omega
  have a2 : P.length < (P ++ x :: Q).length := by simp only [List.length_append, List.length_cons]; omega
  have e4 : ((x.args.length : Int) != (i.args.length : Int)) = false := by simp [x3]
  have w1 : IntKind.i64.wrap ((n : Int) + 1) = ((n + 1 : Nat) : Int) := wrap_nat rfl (by omega)
  refine Goes.trans (.step fun J => ?_) (Law.args h hx hv hP)
  rw [la, e4_l2]
  simp only [Int.toNat_natCast, Nat.zero_add, rdI_mid, blk_mid, List.getD_cons_zero, f3, w1]
  by_cases ht : i.type_ = 0
  · have e1 : (x.type_ != (0 : Int)) = false := by simp [x1, ht]
    have e2 : (x.type_ == (0 : Int)) = true := by simp [x1, ht]
    have e3 : (x.to_ != (0 : Int)) = false := by simp [x2, ht]
    have e5 : step1 n i = n := by unfold step1; rw [if_pos ht]
    rw [e5]
    simp (disch := first | omega | assumption | (rw [decide_eq_true_eq]; omega) | (rw [decide_eq_false_iff_not]; omega)) only [↓if_pos, ↓if_neg, if_true, if_false, wrap_up, Int.toNat_natCast, Nat.zero_add, e1, e2, e3, e4, Bool.false_eq_true]
    rfl
  · have e1 : (x.type_ != (0 : Int)) = true := by simp [x1, ht]
    have e2 : (x.type_ == (0 : Int)) = false := by simp [x1, ht]
    have e3 : (x.to_ != ((n + 1 : Nat) : Int)) = false := by rw [x2, if_neg ht]; simp
    have e5 : step1 n i = n + 1 := by unfold step1; rw [if_neg ht]
    rw [e5]
    simp (disch := first | omega | assumption | (rw [decide_eq_true_eq]; omega) | (rw [decide_eq_false_iff_not]; omega)) only [↓if_pos, ↓if_neg, if_true, if_false, wrap_up, Int.toNat_natCast, Nat.zero_add, e1, e2, e3, e4, Bool.false_eq_true]
    rfl
theorem Law.row (h : okF f) {m : List (Value × Int)} {N : Nat} (hN : (typesOf f).length = N + 1) (hpN : f.params.length ≤ N) (hm : InR m f.params.length N) {A A' C C' : List Ev.Block} (hl : A'.length = A.length) (hA : A.length ≤ 1000) :
    ∀ (Q P P' : List Ev.Ins) (n : Nat), P'.length = P.length → f.blocks = A ++ Block.mk (P ++ Q) :: C → (P ++ Q).length ≤ 1000 → (∀ i, i ∈ Q → okIns i) → n + Q.length ≤ 2000000 →
    Goes C4 U4 (R4 f) k4_l2 (la f n A'.length P'.length (A' ++ Block.mk (P' ++ (numL n Q).map (subI m f.params.length)) :: C')) k4_j2 (s4_j2 f (stepL n Q) A'.length [f] f.name f.out f.params f.result (A' ++ Block.mk (P' ++ (numL n Q).map (subI m f.params.length)) :: C'))
  | [], P, P', n, _, _, _, _, _ => .step fun J => by
    have a1 : A'.length < (A' ++ Block.mk (P' ++ []) :: C').length := by simp only [List.length_append, List.length_cons]; omega
    rw [la, e4_l2]
    simp only [numL, List.map_nil, Int.toNat_natCast, Nat.zero_add, blk_mid, List.append_nil] at a1 ⊢
    simp (disch := first | omega | assumption | (rw [decide_eq_true_eq]; omega) | (rw [decide_eq_false_iff_not]; omega)) only [↓if_pos, ↓if_neg, if_true, if_false, wrap_up, Int.toNat_natCast, Nat.zero_add]
    rfl
  | i :: Q, P, P', n, hP, hB, hQ, hq, hn => by
    have hlen := hQ
    simp only [List.length_append, List.length_cons] at hlen hn
    have hs : step1 n i ≤ n + 1 := by unfold step1; split <;> omega
    obtain ⟨x1, x3, _, _⟩ := subI_num m f.params.length n i
    have hi := hq i List.mem_cons_self
    have f1 : A'.length < f.blocks.length := by rw [hB]; simp only [List.length_append, List.length_cons]; omega
    have f2 : P'.length < (f.blocks.getD A'.length (Block.mk [])).ins.length := by rw [hB, hl, blk_mid]; simp only [List.length_append, List.length_cons]; omega
    have f3 : rdI f.blocks A'.length P'.length = i := by rw [hB, hl, hP, rdI_mid]
    have st := Law.one (Q := (numL (step1 n i) Q).map (subI m f.params.length)) (C := C') h (n := n) (by omega) (by omega) (by omega) f1 f2 f3 x1 rfl x3 (by have := hi.1; omega) (fun v hv => by
      have hv : v ∈ ((risI i).args).map (subV m f.params.length) := hv
      obtain ⟨u, _, rfl⟩ := List.mem_map.1 hv
      have := subV_in hpN hm u
      omega)
    refine Goes.trans st ?_
    have := Law.row h hN hpN hm hl hA (C := C) (C' := C') Q (P ++ [i]) (P' ++ [subI m f.params.length (num1 n i)]) (step1 n i) (by simp [hP]) (by rw [hB]; simp) (by simpa using hQ) (fun x hx => hq x (List.mem_cons_of_mem _ hx)) (by omega)
    rw [List.length_append, List.length_singleton] at this
    simp only [numL, stepL, List.map_cons, List.append_assoc, List.singleton_append] at this ⊢
    exact this
theorem Law.all (h : okF f) {m : List (Value × Int)} {N : Nat} (hN : (typesOf f).length = N + 1) (hpN : f.params.length ≤ N) (hm : InR m f.params.length N) : ∀ (C A A' : List Ev.Block) (n : Nat), A'.length = A.length → f.blocks = A ++ C → n + szT C ≤ 2000000 →
    Goes C4 U4 (R4 f) k4_l0 (s4_l0 f n A'.length [f] f.name f.out f.params f.result (A' ++ (numB n C).map (subB m f.params.length))) k4_j0 (s4_j0 f (stepB n C) f.name f.out f.params f.result (A' ++ (numB n C).map (subB m f.params.length)))
  | [], A, A', n, _, _, _ => .step fun J => by
    rw [e4_l0]
    simp only [numB, List.map_nil, List.append_nil]
    simp (disch := first | omega | assumption | (rw [decide_eq_true_eq]; omega) | (rw [decide_eq_false_iff_not]; omega)) only [↓if_pos, ↓if_neg, if_true, if_false, wrap_up, Int.toNat_natCast, Nat.zero_add]
    rfl
  | b :: C, A, A', n, hl, hB, hn => by
    have hs : szT (b :: C) = b.ins.length + szT C := by simp [szT]
    have hle := stepL_le b.ins n
    have hlen : f.blocks.length = A.length + C.length + 1 := by rw [hB]; simp only [List.length_append, List.length_cons]; omega
    have hf := h.2.1
    have hb := h.2.2 b (by rw [hB]; simp)
    refine Goes.trans (k' := k4_l2) (s' := la f n A'.length ([] : List Ev.Ins).length (A' ++ Block.mk ([] ++ (numL n b.ins).map (subI m f.params.length)) :: (numB (stepL n b.ins) C).map (subB m f.params.length))) (.step fun J => ?_) (Goes.trans (Law.row h hN hpN hm hl (by omega) b.ins [] [] n rfl hB hb.1 hb.2 (by omega)) ?_)
    · have a1 : A'.length < (A' ++ (numB n (b :: C)).map (subB m f.params.length)).length := by rw [List.length_append, outB_len]; simp only [List.length_cons]; omega
      rw [e4_l0]
      simp (disch := first | omega | assumption | (rw [decide_eq_true_eq]; omega) | (rw [decide_eq_false_iff_not]; omega)) only [↓if_pos, ↓if_neg, if_true, if_false, wrap_up, Int.toNat_natCast, Nat.zero_add]
      rfl
    refine Goes.trans (.step fun J => e4_j2 ..) (Goes.trans (.step fun J => e4_j1 ..) ?_)
    have := Law.all h hN hpN hm C (A ++ [b]) (A' ++ [subB m f.params.length (Block.mk (numL n b.ins))]) (stepL n b.ins) (by simp [hl]) (by rw [hB]; simp) (by omega)
    have w1 : IntKind.i64.wrap ((A'.length : Int) + 1) = ((A'.length + 1 : Nat) : Int) := wrap_nat rfl (by omega)
    rw [w1]
    rw [List.length_append, List.length_singleton] at this
    simp only [List.append_assoc, List.singleton_append] at this
    exact this
end
theorem neatLaw_ok (f : Ev.Func) (hw : wideF f) : CallOk tb Try.prog 4 (a4 f) (.v (.bool true)) [.dead] := by
  have e : (⟨f.name, f.out, f.params, f.result, f.blocks⟩ : Ev.Func) = f := rfl
  have e' : (⟨f.name, f.out, f.params, f.result, neatB f.params.length f.blocks⟩ : Ev.Func) = neatF f := rfl
  by_cases hl : lightF f
  · have h := hl.ok
    have hg := neatF_ok h
    have b1 : lightB f = true := decide_eq_true hl
    have ht : typesOf (neatF f) = typesOf f := by
      show [0] ++ f.params ++ tyB (neatB f.params.length f.blocks) = [0] ++ f.params ++ tyB f.blocks
      unfold neatB
      rw [outB_ty]
    have hz : szT (neatB f.params.length f.blocks) = szT f.blocks := outB_sz _ _
    have hN : (typesOf f).length = stepB f.params.length f.blocks + 1 := by
      rw [stepB_len]
      simp only [typesOf, List.length_append, List.length_cons, List.length_nil]
      omega
    have hle := stepB_le f.blocks f.params.length
    have hsz := h.sz
    have hp := h.1
    have hty := h.types
    have hs : sameFun (neatF f) (neatF f) = true := by unfold sameFun same3; simp
    have hs3 : same3 (typesOf f) (typesOf f) = true := by unfold same3; simp
    have hm : InR (mapB [] f.params.length f.blocks) f.params.length (stepB f.params.length f.blocks) := InR.all f.blocks [] _ (Nat.le_refl _) fun k v e => by cases e
    refine fn4 f (Goes.ends (k' := k4_l0) (s' := s4_l0 f f.params.length ([] : List Ev.Block).length [f] f.name f.out f.params f.result ([] ++ (numB f.params.length f.blocks).map (subB (mapB [] f.params.length f.blocks) f.params.length))) (.step fun J => ?_) (Goes.ends (Law.all h hN hle.1 hm f.blocks [] [] f.params.length rfl rfl (by omega)) (.step fun J => ?_)))
    · rw [e4]
      rw [neatB_twice]
      simp only [e, e', ht, hz, hs, hs3, b1]
      have c1 : ((szT f.blocks : Int) != (szT f.blocks : Int)) = false := by simp
      rw [if_pos hw]
      simp only [if_pos h, if_pos hg, c1, Bool.not_true, Bool.false_eq_true, if_false, if_true]
      rw [if_pos (by omega)]
      rfl
    · rw [e4_j0]
      have e2 : (⟨f.name, f.out, f.params, f.result, [] ++ (numB f.params.length f.blocks).map (subB (mapB [] f.params.length f.blocks) f.params.length)⟩ : Ev.Func) = neatF f := rfl
      rw [e2, ht, if_pos hg]
      have : ((typesOf f).length : Int) - 1 = stepB f.params.length f.blocks := by omega
      rw [this]
      simp
  · have b1 : lightB f = false := decide_eq_false hl
    refine fn4 f (.step fun J => ?_)
    rw [e4]
    simp only [e]
    rw [if_pos hw, b1]
    rfl
end Go.Proofs.Ytggibjbcbicpjaa.Ev
