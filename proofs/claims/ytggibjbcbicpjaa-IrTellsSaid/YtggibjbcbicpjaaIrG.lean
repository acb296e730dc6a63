/- ir.Neat: what it comes to. -/
import Derived.Test.YtggibjbcbicpjaaIrF
namespace Go.Proofs.Ytggibjbcbicpjaa.Ev
open Go
set_option linter.unusedVariables false
set_option linter.unusedSimpArgs false
theorem blk_mid {A C : List Ev.Block} {b : Ev.Block} : (A ++ b :: C).getD A.length (Block.mk []) = b := by simp [List.getD_eq_getElem?_getD]
theorem rdI_mid {A C : List Ev.Block} {P Q : List Ev.Ins} {i : Ev.Ins} : rdI (A ++ Block.mk (P ++ i :: Q) :: C) A.length P.length = i := by
  unfold rdI
  rw [blk_mid]
  simp [List.getD_eq_getElem?_getD]
theorem wrI_mid {A C : List Ev.Block} {P Q : List Ev.Ins} {i x : Ev.Ins} : wrI (A ++ Block.mk (P ++ i :: Q) :: C) A.length P.length x = A ++ Block.mk (P ++ x :: Q) :: C := by
  unfold wrI
  rw [blk_mid]
  simp
/-- A Phi's entries rise. -/
def risI (i : Ev.Ins) : Ev.Ins := if i.op = 26 ∧ i.args.length = i.into.length then ⟨i.op, i.type_, i.to_, i.sym_, i.num, (riseF i.args i.into).1, (riseF i.args i.into).2⟩ else i
def num1 (n : Nat) (i : Ev.Ins) : Ev.Ins := ⟨(risI i).op, (risI i).type_, if i.type_ = 0 then 0 else ((n + 1 : Nat) : Int), (risI i).sym_, (risI i).num, (risI i).args, (risI i).into⟩
def step1 (n : Nat) (i : Ev.Ins) : Nat := if i.type_ = 0 then n else n + 1
def key (x : Int) : Value := .int .i64 x
def map1 (m : List (Value × Int)) (n : Nat) (i : Ev.Ins) : List (Value × Int) := if i.type_ = 0 then m else match mget m (key i.to_) with
  | some _ => m
  | none => mput m (key i.to_) ((n + 1 : Nat) : Int)
def numL : Nat → List Ev.Ins → List Ev.Ins
  | _, [] => []
  | n, i :: l => num1 n i :: numL (step1 n i) l
def stepL : Nat → List Ev.Ins → Nat
  | n, [] => n
  | n, i :: l => stepL (step1 n i) l
def mapL : List (Value × Int) → Nat → List Ev.Ins → List (Value × Int)
  | m, _, [] => m
  | m, n, i :: l => mapL (map1 m n i) (step1 n i) l
def numB : Nat → List Ev.Block → List Ev.Block
  | _, [] => []
  | n, b :: l => Block.mk (numL n b.ins) :: numB (stepL n b.ins) l
def stepB : Nat → List Ev.Block → Nat
  | n, [] => n
  | n, b :: l => stepB (stepL n b.ins) l
def mapB : List (Value × Int) → Nat → List Ev.Block → List (Value × Int)
  | m, _, [] => m
  | m, n, b :: l => mapB (mapL m n b.ins) (stepL n b.ins) l
def subV (m : List (Value × Int)) (p : Nat) (v : Int) : Int := if 1 ≤ v ∧ v ≤ p then v else (mget m (key v)).getD 0
def subI (m : List (Value × Int)) (p : Nat) (i : Ev.Ins) : Ev.Ins := ⟨i.op, i.type_, i.to_, i.sym_, i.num, i.args.map (subV m p), i.into⟩
def subB (m : List (Value × Int)) (p : Nat) (b : Ev.Block) : Ev.Block := Block.mk (b.ins.map (subI m p))
def neatB (p : Nat) (l : List Ev.Block) : List Ev.Block := (numB p l).map (subB (mapB [] p l) p)
def neatF (f : Ev.Func) : Ev.Func := ⟨f.name, f.out, f.params, f.result, neatB f.params.length f.blocks⟩
theorem risI_type (i : Ev.Ins) : (risI i).type_ = i.type_ ∧ (risI i).to_ = i.to_ ∧ (risI i).op = i.op := by
  unfold risI
  split <;> exact ⟨rfl, rfl, rfl⟩
theorem stepL_le : ∀ (l : List Ev.Ins) (n : Nat), n ≤ stepL n l ∧ stepL n l ≤ n + l.length
  | [], n => ⟨Nat.le_refl _, Nat.le_refl _⟩
  | i :: l, n => by
    have := stepL_le l (step1 n i)
    have h : n ≤ step1 n i ∧ step1 n i ≤ n + 1 := by unfold step1; split <;> omega
    simp only [stepL, List.length_cons]
    omega
theorem stepB_le : ∀ (l : List Ev.Block) (n : Nat), n ≤ stepB n l ∧ stepB n l ≤ n + szT l
  | [], n => ⟨Nat.le_refl _, Nat.le_refl _⟩
  | b :: l, n => by
    have := stepB_le l (stepL n b.ins)
    have := stepL_le b.ins n
    simp only [stepB, szT, List.map_cons, List.sum_cons] at *
    omega
noncomputable def b26 : Code := bodyOf Try.f26
noncomputable def C26 : Cfg Ty := ⟨fun
  | 76 => some ([], S76)
  | 77 => some ([true], S77)
  | _ => none, fun
  | 1 => true
  | 2 => true
  | 300001 => true
  | 400142 => true
  | 500012 => true
  | _ => false, 143, 0⟩
def U26 : Cuts := ⟨fun
  | 0 => some [(1, none), (2, none), (3, none)]
  | 1 => some [(1, none), (2, none), (3, none), (4, none), (23, none), (24, none)]
  | 2 => some [(1, none), (2, none), (3, none), (4, none), (23, none), (24, none)]
  | 3 => some [(1, none), (2, none), (3, none), (4, none), (5, none), (23, none), (24, none), (33, none), (34, none)]
  | 4 => some [(1, none), (2, none)]
  | 5 => some [(1, none), (2, none), (3, none), (100, none), (101, none)]
  | 6 => some [(1, none), (2, none), (3, none), (100, none), (101, none)]
  | 7 => some [(1, none), (2, none), (3, none), (100, none), (101, none), (109, none), (110, none), (111, none)]
  | 8 => some [(1, none), (2, none), (3, none), (100, none), (101, none), (109, none), (110, none), (111, none)]
  | 9 => some [(1, none), (2, none), (3, none), (12, none), (100, none), (101, none), (109, none), (110, none), (111, none), (116, none), (117, none), (118, none)]
  | _ => none, fun
  | 0 => some [(1, none), (2, none), (3, none), (4, none), (23, none), (24, none)]
  | 2 => some [(1, none), (2, none), (3, none), (4, none), (5, none), (23, none), (24, none), (33, none), (34, none)]
  | 4 => some [(1, none), (2, none), (3, none), (100, none), (101, none)]
  | 6 => some [(1, none), (2, none), (3, none), (100, none), (101, none), (109, none), (110, none), (111, none)]
  | 8 => some [(1, none), (2, none), (3, none), (12, none), (100, none), (101, none), (109, none), (110, none), (111, none), (116, none), (117, none), (118, none)]
  | _ => none, fun _ => none⟩
noncomputable def k26_j0 : List Item := [.code (sndC (sndC (sndC (sndC (sndC b26)))))]
noncomputable def k26_l0 : List Item := [.code (inC (inC (sndC (fstC (sndC (sndC (sndC (sndC b26)))))))), .inLoop (inC (inC (sndC (fstC (sndC (sndC (sndC (sndC b26)))))))), .inBlock 0, .code (sndC (sndC (sndC (sndC (sndC b26)))))]
noncomputable def k26_j1 : List Item := [.code (sndC (sndC (sndC (inC (inC (sndC (fstC (sndC (sndC (sndC (sndC b26))))))))))), .inLoop (inC (inC (sndC (fstC (sndC (sndC (sndC (sndC b26)))))))), .inBlock 0, .code (sndC (sndC (sndC (sndC (sndC b26)))))]
noncomputable def k26_j2 : List Item := [.inBlock 1, .code (sndC (sndC (sndC (inC (inC (sndC (fstC (sndC (sndC (sndC (sndC b26))))))))))), .inLoop (inC (inC (sndC (fstC (sndC (sndC (sndC (sndC b26)))))))), .inBlock 0, .code (sndC (sndC (sndC (sndC (sndC b26)))))]
noncomputable def k26_l2 : List Item := [.code (inC (inC (sndC (sndC (inC (fstC (sndC (sndC (inC (inC (sndC (fstC (sndC (sndC (sndC (sndC b26)))))))))))))))), .inLoop (inC (inC (sndC (sndC (inC (fstC (sndC (sndC (inC (inC (sndC (fstC (sndC (sndC (sndC (sndC b26)))))))))))))))), .inBlock 2, .inBlock 1, .code (sndC (sndC (sndC (inC (inC (sndC (fstC (sndC (sndC (sndC (sndC b26))))))))))), .inLoop (inC (inC (sndC (fstC (sndC (sndC (sndC (sndC b26)))))))), .inBlock 0, .code (sndC (sndC (sndC (sndC (sndC b26)))))]
noncomputable def k26_j3 : List Item := [.code (sndC (sndC (sndC (inC (inC (sndC (sndC (inC (fstC (sndC (sndC (inC (inC (sndC (fstC (sndC (sndC (sndC (sndC b26))))))))))))))))))), .inLoop (inC (inC (sndC (sndC (inC (fstC (sndC (sndC (inC (inC (sndC (fstC (sndC (sndC (sndC (sndC b26)))))))))))))))), .inBlock 2, .inBlock 1, .code (sndC (sndC (sndC (inC (inC (sndC (fstC (sndC (sndC (sndC (sndC b26))))))))))), .inLoop (inC (inC (sndC (fstC (sndC (sndC (sndC (sndC b26)))))))), .inBlock 0, .code (sndC (sndC (sndC (sndC (sndC b26)))))]
noncomputable def k26_j4 : List Item := [.code (sndC (sndC (sndC (sndC (sndC (sndC b26))))))]
noncomputable def k26_l4 : List Item := [.code (inC (inC (sndC (fstC (sndC (sndC (sndC (sndC (sndC b26))))))))), .inLoop (inC (inC (sndC (fstC (sndC (sndC (sndC (sndC (sndC b26))))))))), .inBlock 4, .code (sndC (sndC (sndC (sndC (sndC (sndC b26))))))]
noncomputable def k26_j5 : List Item := [.code (sndC (sndC (sndC (inC (inC (sndC (fstC (sndC (sndC (sndC (sndC (sndC b26)))))))))))), .inLoop (inC (inC (sndC (fstC (sndC (sndC (sndC (sndC (sndC b26))))))))), .inBlock 4, .code (sndC (sndC (sndC (sndC (sndC (sndC b26))))))]
noncomputable def k26_j6 : List Item := [.inBlock 5, .code (sndC (sndC (sndC (inC (inC (sndC (fstC (sndC (sndC (sndC (sndC (sndC b26)))))))))))), .inLoop (inC (inC (sndC (fstC (sndC (sndC (sndC (sndC (sndC b26))))))))), .inBlock 4, .code (sndC (sndC (sndC (sndC (sndC (sndC b26))))))]
noncomputable def k26_l6 : List Item := [.code (inC (inC (sndC (sndC (inC (fstC (sndC (sndC (inC (inC (sndC (fstC (sndC (sndC (sndC (sndC (sndC b26))))))))))))))))), .inLoop (inC (inC (sndC (sndC (inC (fstC (sndC (sndC (inC (inC (sndC (fstC (sndC (sndC (sndC (sndC (sndC b26))))))))))))))))), .inBlock 6, .inBlock 5, .code (sndC (sndC (sndC (inC (inC (sndC (fstC (sndC (sndC (sndC (sndC (sndC b26)))))))))))), .inLoop (inC (inC (sndC (fstC (sndC (sndC (sndC (sndC (sndC b26))))))))), .inBlock 4, .code (sndC (sndC (sndC (sndC (sndC (sndC b26))))))]
noncomputable def k26_j7 : List Item := [.code (sndC (sndC (sndC (inC (inC (sndC (sndC (inC (fstC (sndC (sndC (inC (inC (sndC (fstC (sndC (sndC (sndC (sndC (sndC b26)))))))))))))))))))), .inLoop (inC (inC (sndC (sndC (inC (fstC (sndC (sndC (inC (inC (sndC (fstC (sndC (sndC (sndC (sndC (sndC b26))))))))))))))))), .inBlock 6, .inBlock 5, .code (sndC (sndC (sndC (inC (inC (sndC (fstC (sndC (sndC (sndC (sndC (sndC b26)))))))))))), .inLoop (inC (inC (sndC (fstC (sndC (sndC (sndC (sndC (sndC b26))))))))), .inBlock 4, .code (sndC (sndC (sndC (sndC (sndC (sndC b26))))))]
noncomputable def k26_j8 : List Item := [.inBlock 7, .code (sndC (sndC (sndC (inC (inC (sndC (sndC (inC (fstC (sndC (sndC (inC (inC (sndC (fstC (sndC (sndC (sndC (sndC (sndC b26)))))))))))))))))))), .inLoop (inC (inC (sndC (sndC (inC (fstC (sndC (sndC (inC (inC (sndC (fstC (sndC (sndC (sndC (sndC (sndC b26))))))))))))))))), .inBlock 6, .inBlock 5, .code (sndC (sndC (sndC (inC (inC (sndC (fstC (sndC (sndC (sndC (sndC (sndC b26)))))))))))), .inLoop (inC (inC (sndC (fstC (sndC (sndC (sndC (sndC (sndC b26))))))))), .inBlock 4, .code (sndC (sndC (sndC (sndC (sndC (sndC b26))))))]
noncomputable def k26_l8 : List Item := [.code (inC (inC (sndC (sndC (inC (fstC (sndC (sndC (inC (inC (sndC (sndC (inC (fstC (sndC (sndC (inC (inC (sndC (fstC (sndC (sndC (sndC (sndC (sndC b26))))))))))))))))))))))))), .inLoop (inC (inC (sndC (sndC (inC (fstC (sndC (sndC (inC (inC (sndC (sndC (inC (fstC (sndC (sndC (inC (inC (sndC (fstC (sndC (sndC (sndC (sndC (sndC b26))))))))))))))))))))))))), .inBlock 8, .inBlock 7, .code (sndC (sndC (sndC (inC (inC (sndC (sndC (inC (fstC (sndC (sndC (inC (inC (sndC (fstC (sndC (sndC (sndC (sndC (sndC b26)))))))))))))))))))), .inLoop (inC (inC (sndC (sndC (inC (fstC (sndC (sndC (inC (inC (sndC (fstC (sndC (sndC (sndC (sndC (sndC b26))))))))))))))))), .inBlock 6, .inBlock 5, .code (sndC (sndC (sndC (inC (inC (sndC (fstC (sndC (sndC (sndC (sndC (sndC b26)))))))))))), .inLoop (inC (inC (sndC (fstC (sndC (sndC (sndC (sndC (sndC b26))))))))), .inBlock 4, .code (sndC (sndC (sndC (sndC (sndC (sndC b26))))))]
noncomputable def k26_j9 : List Item := [.code (sndC (sndC (sndC (inC (inC (sndC (sndC (inC (fstC (sndC (sndC (inC (inC (sndC (sndC (inC (fstC (sndC (sndC (inC (inC (sndC (fstC (sndC (sndC (sndC (sndC (sndC b26)))))))))))))))))))))))))))), .inLoop (inC (inC (sndC (sndC (inC (fstC (sndC (sndC (inC (inC (sndC (sndC (inC (fstC (sndC (sndC (inC (inC (sndC (fstC (sndC (sndC (sndC (sndC (sndC b26))))))))))))))))))))))))), .inBlock 8, .inBlock 7, .code (sndC (sndC (sndC (inC (inC (sndC (sndC (inC (fstC (sndC (sndC (inC (inC (sndC (fstC (sndC (sndC (sndC (sndC (sndC b26)))))))))))))))))))), .inLoop (inC (inC (sndC (sndC (inC (fstC (sndC (sndC (inC (inC (sndC (fstC (sndC (sndC (sndC (sndC (sndC b26))))))))))))))))), .inBlock 6, .inBlock 5, .code (sndC (sndC (sndC (inC (inC (sndC (fstC (sndC (sndC (sndC (sndC (sndC b26)))))))))))), .inLoop (inC (inC (sndC (fstC (sndC (sndC (sndC (sndC (sndC b26))))))))), .inBlock 4, .code (sndC (sndC (sndC (sndC (sndC (sndC b26))))))]
def a26 (f : Func) : List (AV Ty) := [.agg [.v (.string f.name), .v (.bool f.out), .sl false (3 : Nat) f.params, .v (.int .i64 f.result), .sl false (44 : Nat) f.blocks]]
noncomputable def R26 (f : Func) : St Ty → EvR := resT tb C26 Try.f26.results.toList .keep (a26 f)
def s26_l0 (f : Func) (v3 : List (Value × Int)) (v4 : Int) (v23 : Int) (v24 : Int) (h0 : ByteArray) (h0_1 : Bool) (h0_2 : List Int) (h0_3 : Int) (h0_4 : List Block) (h1 : ByteArray) (h1_1 : Bool) (h1_2 : List Int) (h1_3 : Int) (h1_4 : List Block) : St Ty := St.mk [(1, .ptr (0) [] (0) (0)), (2, .ptr (1) [] (0) (0)), (3, AV.mp (some IntKind.i64) IntKind.i64 v3), (4, .v (.int .i64 v4)), (23, .v (.int .i64 v23)), (24, .v (.int .i64 v24))] [some (Root.mk (1033) true [FFunc.mk (Func.mk h0 h0_1 h0_2 h0_3 h0_4) true true]), some (Root.mk (33) true [Func.mk h1 h1_1 h1_2 h1_3 h1_4])]
def s26_l2 (f : Func) (v3 : List (Value × Int)) (v4 : Int) (v5 : Int) (v23 : Int) (v24 : Int) (v33 : Int) (v34 : Int) (h0 : ByteArray) (h0_1 : Bool) (h0_2 : List Int) (h0_3 : Int) (h0_4 : List Block) (h1 : ByteArray) (h1_1 : Bool) (h1_2 : List Int) (h1_3 : Int) (h1_4 : List Block) : St Ty := St.mk [(1, .ptr (0) [] (0) (0)), (2, .ptr (1) [] (0) (0)), (3, AV.mp (some IntKind.i64) IntKind.i64 v3), (4, .v (.int .i64 v4)), (5, .v (.int .i64 v5)), (23, .v (.int .i64 v23)), (24, .v (.int .i64 v24)), (33, .v (.int .i64 v33)), (34, .v (.int .i64 v34))] [some (Root.mk (1033) true [FFunc.mk (Func.mk h0 h0_1 h0_2 h0_3 h0_4) true true]), some (Root.mk (33) true [Func.mk h1 h1_1 h1_2 h1_3 h1_4])]
def s26_j0 (f : Func) (v3 : List (Value × Int)) (h0 : ByteArray) (h0_1 : Bool) (h0_2 : List Int) (h0_3 : Int) (h0_4 : List Block) (h1 : ByteArray) (h1_1 : Bool) (h1_2 : List Int) (h1_3 : Int) (h1_4 : List Block) : St Ty := St.mk [(1, .ptr (0) [] (0) (0)), (2, .ptr (1) [] (0) (0)), (3, AV.mp (some IntKind.i64) IntKind.i64 v3)] [some (Root.mk (1033) true [FFunc.mk (Func.mk h0 h0_1 h0_2 h0_3 h0_4) true true]), some (Root.mk (33) true [Func.mk h1 h1_1 h1_2 h1_3 h1_4])]
def s26_j3 (f : Func) (v3 : List (Value × Int)) (v4 : Int) (v5 : Int) (v23 : Int) (v24 : Int) (v33 : Int) (v34 : Int) (h0 : ByteArray) (h0_1 : Bool) (h0_2 : List Int) (h0_3 : Int) (h0_4 : List Block) (h1 : ByteArray) (h1_1 : Bool) (h1_2 : List Int) (h1_3 : Int) (h1_4 : List Block) : St Ty := St.mk [(1, .ptr (0) [] (0) (0)), (2, .ptr (1) [] (0) (0)), (3, AV.mp (some IntKind.i64) IntKind.i64 v3), (4, .v (.int .i64 v4)), (5, .v (.int .i64 v5)), (23, .v (.int .i64 v23)), (24, .v (.int .i64 v24)), (33, .v (.int .i64 v33)), (34, .v (.int .i64 v34))] [some (Root.mk (1033) true [FFunc.mk (Func.mk h0 h0_1 h0_2 h0_3 h0_4) true true]), some (Root.mk (33) true [Func.mk h1 h1_1 h1_2 h1_3 h1_4])]
def s26_j2 (f : Func) (v3 : List (Value × Int)) (v4 : Int) (v23 : Int) (v24 : Int) (h0 : ByteArray) (h0_1 : Bool) (h0_2 : List Int) (h0_3 : Int) (h0_4 : List Block) (h1 : ByteArray) (h1_1 : Bool) (h1_2 : List Int) (h1_3 : Int) (h1_4 : List Block) : St Ty := St.mk [(1, .ptr (0) [] (0) (0)), (2, .ptr (1) [] (0) (0)), (3, AV.mp (some IntKind.i64) IntKind.i64 v3), (4, .v (.int .i64 v4)), (23, .v (.int .i64 v23)), (24, .v (.int .i64 v24))] [some (Root.mk (1033) true [FFunc.mk (Func.mk h0 h0_1 h0_2 h0_3 h0_4) true true]), some (Root.mk (33) true [Func.mk h1 h1_1 h1_2 h1_3 h1_4])]
def s26_l4 (f : Func) (v3 : List (Value × Int)) (v100 : Int) (v101 : Int) (h0 : ByteArray) (h0_1 : Bool) (h0_2 : List Int) (h0_3 : Int) (h0_4 : List Block) (h1 : ByteArray) (h1_1 : Bool) (h1_2 : List Int) (h1_3 : Int) (h1_4 : List Block) : St Ty := St.mk [(1, .ptr (0) [] (0) (0)), (2, .ptr (1) [] (0) (0)), (3, AV.mp (some IntKind.i64) IntKind.i64 v3), (100, .v (.int .i64 v100)), (101, .v (.int .i64 v101))] [some (Root.mk (1033) true [FFunc.mk (Func.mk h0 h0_1 h0_2 h0_3 h0_4) true true]), some (Root.mk (33) true [Func.mk h1 h1_1 h1_2 h1_3 h1_4])]
def s26_j1 (f : Func) (v3 : List (Value × Int)) (v4 : Int) (v23 : Int) (v24 : Int) (h0 : ByteArray) (h0_1 : Bool) (h0_2 : List Int) (h0_3 : Int) (h0_4 : List Block) (h1 : ByteArray) (h1_1 : Bool) (h1_2 : List Int) (h1_3 : Int) (h1_4 : List Block) : St Ty := St.mk [(1, .ptr (0) [] (0) (0)), (2, .ptr (1) [] (0) (0)), (3, AV.mp (some IntKind.i64) IntKind.i64 v3), (4, .v (.int .i64 v4)), (23, .v (.int .i64 v23)), (24, .v (.int .i64 v24))] [some (Root.mk (1033) true [FFunc.mk (Func.mk h0 h0_1 h0_2 h0_3 h0_4) true true]), some (Root.mk (33) true [Func.mk h1 h1_1 h1_2 h1_3 h1_4])]
def s26_l6 (f : Func) (v3 : List (Value × Int)) (v100 : Int) (v101 : Int) (v109 : Nat) (v110 : Int) (v111 : Int) (h0 : ByteArray) (h0_1 : Bool) (h0_2 : List Int) (h0_3 : Int) (h0_4 : List Block) (h1 : ByteArray) (h1_1 : Bool) (h1_2 : List Int) (h1_3 : Int) (h1_4 : List Block) : St Ty := St.mk [(1, .ptr (0) [] (0) (0)), (2, .ptr (1) [] (0) (0)), (3, AV.mp (some IntKind.i64) IntKind.i64 v3), (100, .v (.int .i64 v100)), (101, .v (.int .i64 v101)), (109, .ref (0) [(0, 4), (v109, 0)] none false), (110, .v (.int .i64 v110)), (111, .v (.int .i64 v111))] [some (Root.mk (1033) true [FFunc.mk (Func.mk h0 h0_1 h0_2 h0_3 h0_4) true true]), some (Root.mk (33) true [Func.mk h1 h1_1 h1_2 h1_3 h1_4])]
def s26_j4 (f : Func) (h0 : ByteArray) (h0_1 : Bool) (h0_2 : List Int) (h0_3 : Int) (h0_4 : List Block) (h1 : ByteArray) (h1_1 : Bool) (h1_2 : List Int) (h1_3 : Int) (h1_4 : List Block) : St Ty := St.mk [(1, .ptr (0) [] (0) (0)), (2, .ptr (1) [] (0) (0))] [some (Root.mk (1033) true [FFunc.mk (Func.mk h0 h0_1 h0_2 h0_3 h0_4) true true]), some (Root.mk (33) true [Func.mk h1 h1_1 h1_2 h1_3 h1_4])]
def s26_l8 (f : Func) (v3 : List (Value × Int)) (v12 : Int) (v12_1 : Int) (v12_2 : Int) (v12_3 : Int) (v12_4 : Int) (v12_5 : Nat) (v12_6 : Nat) (v12_7 : Bool) (v12_8 : Nat) (v12_9 : Nat) (v12_10 : Bool) (v100 : Int) (v101 : Int) (v109 : Nat) (v110 : Int) (v111 : Int) (v116 : Nat) (v116_1 : Nat) (v117 : Int) (v118 : Int) (h0 : ByteArray) (h0_1 : Bool) (h0_2 : List Int) (h0_3 : Int) (h0_4 : List Block) (h1 : ByteArray) (h1_1 : Bool) (h1_2 : List Int) (h1_3 : Int) (h1_4 : List Block) : St Ty := St.mk [(1, .ptr (0) [] (0) (0)), (2, .ptr (1) [] (0) (0)), (3, AV.mp (some IntKind.i64) IntKind.i64 v3), (12, AV.vb [.v (.int .i64 v12), .v (.int .i64 v12_1), .v (.int .i64 v12_2), .v (.int .i64 v12_3), .v (.int .i64 v12_4), .ref (0) [(0, 4), (v12_5, 0), (v12_6, 5)] none v12_7, .ref (0) [(0, 4), (v12_8, 0), (v12_9, 6)] none v12_10]), (100, .v (.int .i64 v100)), (101, .v (.int .i64 v101)), (109, .ref (0) [(0, 4), (v109, 0)] none false), (110, .v (.int .i64 v110)), (111, .v (.int .i64 v111)), (116, .ref (0) [(0, 4), (v116, 0), (v116_1, 5)] none false), (117, .v (.int .i64 v117)), (118, .v (.int .i64 v118))] [some (Root.mk (1033) true [FFunc.mk (Func.mk h0 h0_1 h0_2 h0_3 h0_4) true true]), some (Root.mk (33) true [Func.mk h1 h1_1 h1_2 h1_3 h1_4])]
def s26_j6 (f : Func) (v3 : List (Value × Int)) (v100 : Int) (v101 : Int) (h0 : ByteArray) (h0_1 : Bool) (h0_2 : List Int) (h0_3 : Int) (h0_4 : List Block) (h1 : ByteArray) (h1_1 : Bool) (h1_2 : List Int) (h1_3 : Int) (h1_4 : List Block) : St Ty := St.mk [(1, .ptr (0) [] (0) (0)), (2, .ptr (1) [] (0) (0)), (3, AV.mp (some IntKind.i64) IntKind.i64 v3), (100, .v (.int .i64 v100)), (101, .v (.int .i64 v101))] [some (Root.mk (1033) true [FFunc.mk (Func.mk h0 h0_1 h0_2 h0_3 h0_4) true true]), some (Root.mk (33) true [Func.mk h1 h1_1 h1_2 h1_3 h1_4])]
def s26_j9 (f : Func) (v3 : List (Value × Int)) (v12 : Int) (v12_1 : Int) (v12_2 : Int) (v12_3 : Int) (v12_4 : Int) (v12_5 : Nat) (v12_6 : Nat) (v12_7 : Bool) (v12_8 : Nat) (v12_9 : Nat) (v12_10 : Bool) (v100 : Int) (v101 : Int) (v109 : Nat) (v110 : Int) (v111 : Int) (v116 : Nat) (v116_1 : Nat) (v117 : Int) (v118 : Int) (h0 : ByteArray) (h0_1 : Bool) (h0_2 : List Int) (h0_3 : Int) (h0_4 : List Block) (h1 : ByteArray) (h1_1 : Bool) (h1_2 : List Int) (h1_3 : Int) (h1_4 : List Block) : St Ty := St.mk [(1, .ptr (0) [] (0) (0)), (2, .ptr (1) [] (0) (0)), (3, AV.mp (some IntKind.i64) IntKind.i64 v3), (12, AV.vb [.v (.int .i64 v12), .v (.int .i64 v12_1), .v (.int .i64 v12_2), .v (.int .i64 v12_3), .v (.int .i64 v12_4), .ref (0) [(0, 4), (v12_5, 0), (v12_6, 5)] none v12_7, .ref (0) [(0, 4), (v12_8, 0), (v12_9, 6)] none v12_10]), (100, .v (.int .i64 v100)), (101, .v (.int .i64 v101)), (109, .ref (0) [(0, 4), (v109, 0)] none false), (110, .v (.int .i64 v110)), (111, .v (.int .i64 v111)), (116, .ref (0) [(0, 4), (v116, 0), (v116_1, 5)] none false), (117, .v (.int .i64 v117)), (118, .v (.int .i64 v118))] [some (Root.mk (1033) true [FFunc.mk (Func.mk h0 h0_1 h0_2 h0_3 h0_4) true true]), some (Root.mk (33) true [Func.mk h1 h1_1 h1_2 h1_3 h1_4])]
def s26_j8 (f : Func) (v3 : List (Value × Int)) (v100 : Int) (v101 : Int) (v109 : Nat) (v110 : Int) (v111 : Int) (h0 : ByteArray) (h0_1 : Bool) (h0_2 : List Int) (h0_3 : Int) (h0_4 : List Block) (h1 : ByteArray) (h1_1 : Bool) (h1_2 : List Int) (h1_3 : Int) (h1_4 : List Block) : St Ty := St.mk [(1, .ptr (0) [] (0) (0)), (2, .ptr (1) [] (0) (0)), (3, AV.mp (some IntKind.i64) IntKind.i64 v3), (100, .v (.int .i64 v100)), (101, .v (.int .i64 v101)), (109, .ref (0) [(0, 4), (v109, 0)] none false), (110, .v (.int .i64 v110)), (111, .v (.int .i64 v111))] [some (Root.mk (1033) true [FFunc.mk (Func.mk h0 h0_1 h0_2 h0_3 h0_4) true true]), some (Root.mk (33) true [Func.mk h1 h1_1 h1_2 h1_3 h1_4])]
def s26_j5 (f : Func) (v3 : List (Value × Int)) (v100 : Int) (v101 : Int) (h0 : ByteArray) (h0_1 : Bool) (h0_2 : List Int) (h0_3 : Int) (h0_4 : List Block) (h1 : ByteArray) (h1_1 : Bool) (h1_2 : List Int) (h1_3 : Int) (h1_4 : List Block) : St Ty := St.mk [(1, .ptr (0) [] (0) (0)), (2, .ptr (1) [] (0) (0)), (3, AV.mp (some IntKind.i64) IntKind.i64 v3), (100, .v (.int .i64 v100)), (101, .v (.int .i64 v101))] [some (Root.mk (1033) true [FFunc.mk (Func.mk h0 h0_1 h0_2 h0_3 h0_4) true true]), some (Root.mk (33) true [Func.mk h1 h1_1 h1_2 h1_3 h1_4])]
def s26_j7 (f : Func) (v3 : List (Value × Int)) (v100 : Int) (v101 : Int) (v109 : Nat) (v110 : Int) (v111 : Int) (h0 : ByteArray) (h0_1 : Bool) (h0_2 : List Int) (h0_3 : Int) (h0_4 : List Block) (h1 : ByteArray) (h1_1 : Bool) (h1_2 : List Int) (h1_3 : Int) (h1_4 : List Block) : St Ty := St.mk [(1, .ptr (0) [] (0) (0)), (2, .ptr (1) [] (0) (0)), (3, AV.mp (some IntKind.i64) IntKind.i64 v3), (100, .v (.int .i64 v100)), (101, .v (.int .i64 v101)), (109, .ref (0) [(0, 4), (v109, 0)] none false), (110, .v (.int .i64 v110)), (111, .v (.int .i64 v111))] [some (Root.mk (1033) true [FFunc.mk (Func.mk h0 h0_1 h0_2 h0_3 h0_4) true true]), some (Root.mk (33) true [Func.mk h1 h1_1 h1_2 h1_3 h1_4])]
theorem e26 (J f) : run tb C26 U26 J (R26 f) 4096 [.code b26] ⟨slotsA (a26 f) 0 0, heapA (a26 f)⟩ =
 if okF (Func.mk f.name f.out f.params f.result f.blocks) then
 J k26_l0 (s26_l0 f ([]) ((↑f.params.length : Int)) ((↑f.blocks.length : Int)) 0 f.name f.out f.params f.result f.blocks ByteArray.empty false ([]) 0 ([]))
 else none := by kernel_rfl
theorem e26_l0 (J f v3 v4 v23 v24 h0 h0_1 h0_2 h0_3 h0_4 h1 h1_1 h1_2 h1_3 h1_4) : run tb C26 U26 J (R26 f) 4096 k26_l0 (s26_l0 f v3 v4 v23 v24 h0 h0_1 h0_2 h0_3 h0_4 h1 h1_1 h1_2 h1_3 h1_4) =
 if decide (v24 < v23) = true then
 if 0 ≤ v24 then
 if v24 < (↑h0_4.length : Int) then
 J k26_l2 (s26_l2 f v3 v4 v24 v23 v24 ((↑(h0_4.getD (0 + v24.toNat) (Block.mk [])).ins.length : Int)) 0 h0 h0_1 h0_2 h0_3 h0_4 h1 h1_1 h1_2 h1_3 h1_4)
 else none
 else none
 else
 J k26_j0 (s26_j0 f v3 h0 h0_1 h0_2 h0_3 h0_4 h1 h1_1 h1_2 h1_3 h1_4) := by kernel_rfl
theorem e26_l2 (J f v3 v4 v5 v23 v24 v33 v34 h0 h0_1 h0_2 h0_3 h0_4 h1 h1_1 h1_2 h1_3 h1_4) : run tb C26 U26 J (R26 f) 4096 k26_l2 (s26_l2 f v3 v4 v5 v23 v24 v33 v34 h0 h0_1 h0_2 h0_3 h0_4 h1 h1_1 h1_2 h1_3 h1_4) =
 if decide (v34 < v33) = true then
 if 0 ≤ v5 then
 if v5 < (↑h0_4.length : Int) then
 if 0 ≤ v34 then
 if v34 < (↑(h0_4.getD (0 + v5.toNat) (Block.mk [])).ins.length : Int) then
 if ((rdI h0_4 (0 + v5.toNat) (0 + v34.toNat)).op == 26) = true then
 if ((↑(rdI h0_4 (0 + v5.toNat) (0 + v34.toNat)).args.length : Int) == (↑(rdI h0_4 (0 + v5.toNat) (0 + v34.toNat)).into.length : Int)) = true then
 if (rdI h0_4 (0 + v5.toNat) (0 + v34.toNat)).args.length = (rdI h0_4 (0 + v5.toNat) (0 + v34.toNat)).into.length ∧ (rdI h0_4 (0 + v5.toNat) (0 + v34.toNat)).into.length ≤ 1000 then
 if ((rdI (wrI h0_4 (0 + v5.toNat) (0 + v34.toNat) (Ins.mk (rdI h0_4 (0 + v5.toNat) (0 + v34.toNat)).op (rdI h0_4 (0 + v5.toNat) (0 + v34.toNat)).type_ (rdI h0_4 (0 + v5.toNat) (0 + v34.toNat)).to_ (rdI h0_4 (0 + v5.toNat) (0 + v34.toNat)).sym_ (rdI h0_4 (0 + v5.toNat) (0 + v34.toNat)).num (riseF (rdI h0_4 (0 + v5.toNat) (0 + v34.toNat)).args (rdI h0_4 (0 + v5.toNat) (0 + v34.toNat)).into).fst (riseF (rdI h0_4 (0 + v5.toNat) (0 + v34.toNat)).args (rdI h0_4 (0 + v5.toNat) (0 + v34.toNat)).into).snd)) (0 + v5.toNat) (0 + v34.toNat)).type_ == 0) = true then
 J k26_j3 (s26_j3 f v3 v4 v5 v23 v24 v33 v34 h0 h0_1 h0_2 h0_3 (wrI (wrI h0_4 (0 + v5.toNat) (0 + v34.toNat) (Ins.mk (rdI h0_4 (0 + v5.toNat) (0 + v34.toNat)).op (rdI h0_4 (0 + v5.toNat) (0 + v34.toNat)).type_ (rdI h0_4 (0 + v5.toNat) (0 + v34.toNat)).to_ (rdI h0_4 (0 + v5.toNat) (0 + v34.toNat)).sym_ (rdI h0_4 (0 + v5.toNat) (0 + v34.toNat)).num (riseF (rdI h0_4 (0 + v5.toNat) (0 + v34.toNat)).args (rdI h0_4 (0 + v5.toNat) (0 + v34.toNat)).into).fst (riseF (rdI h0_4 (0 + v5.toNat) (0 + v34.toNat)).args (rdI h0_4 (0 + v5.toNat) (0 + v34.toNat)).into).snd)) (0 + v5.toNat) (0 + v34.toNat) (Ins.mk (rdI (wrI h0_4 (0 + v5.toNat) (0 + v34.toNat) (Ins.mk (rdI h0_4 (0 + v5.toNat) (0 + v34.toNat)).op (rdI h0_4 (0 + v5.toNat) (0 + v34.toNat)).type_ (rdI h0_4 (0 + v5.toNat) (0 + v34.toNat)).to_ (rdI h0_4 (0 + v5.toNat) (0 + v34.toNat)).sym_ (rdI h0_4 (0 + v5.toNat) (0 + v34.toNat)).num (riseF (rdI h0_4 (0 + v5.toNat) (0 + v34.toNat)).args (rdI h0_4 (0 + v5.toNat) (0 + v34.toNat)).into).fst (riseF (rdI h0_4 (0 + v5.toNat) (0 + v34.toNat)).args (rdI h0_4 (0 + v5.toNat) (0 + v34.toNat)).into).snd)) (0 + v5.toNat) (0 + v34.toNat)).op (rdI (wrI h0_4 (0 + v5.toNat) (0 + v34.toNat) (Ins.mk (rdI h0_4 (0 + v5.toNat) (0 + v34.toNat)).op (rdI h0_4 (0 + v5.toNat) (0 + v34.toNat)).type_ (rdI h0_4 (0 + v5.toNat) (0 + v34.toNat)).to_ (rdI h0_4 (0 + v5.toNat) (0 + v34.toNat)).sym_ (rdI h0_4 (0 + v5.toNat) (0 + v34.toNat)).num (riseF (rdI h0_4 (0 + v5.toNat) (0 + v34.toNat)).args (rdI h0_4 (0 + v5.toNat) (0 + v34.toNat)).into).fst (riseF (rdI h0_4 (0 + v5.toNat) (0 + v34.toNat)).args (rdI h0_4 (0 + v5.toNat) (0 + v34.toNat)).into).snd)) (0 + v5.toNat) (0 + v34.toNat)).type_ 0 (rdI (wrI h0_4 (0 + v5.toNat) (0 + v34.toNat) (Ins.mk (rdI h0_4 (0 + v5.toNat) (0 + v34.toNat)).op (rdI h0_4 (0 + v5.toNat) (0 + v34.toNat)).type_ (rdI h0_4 (0 + v5.toNat) (0 + v34.toNat)).to_ (rdI h0_4 (0 + v5.toNat) (0 + v34.toNat)).sym_ (rdI h0_4 (0 + v5.toNat) (0 + v34.toNat)).num (riseF (rdI h0_4 (0 + v5.toNat) (0 + v34.toNat)).args (rdI h0_4 (0 + v5.toNat) (0 + v34.toNat)).into).fst (riseF (rdI h0_4 (0 + v5.toNat) (0 + v34.toNat)).args (rdI h0_4 (0 + v5.toNat) (0 + v34.toNat)).into).snd)) (0 + v5.toNat) (0 + v34.toNat)).sym_ (rdI (wrI h0_4 (0 + v5.toNat) (0 + v34.toNat) (Ins.mk (rdI h0_4 (0 + v5.toNat) (0 + v34.toNat)).op (rdI h0_4 (0 + v5.toNat) (0 + v34.toNat)).type_ (rdI h0_4 (0 + v5.toNat) (0 + v34.toNat)).to_ (rdI h0_4 (0 + v5.toNat) (0 + v34.toNat)).sym_ (rdI h0_4 (0 + v5.toNat) (0 + v34.toNat)).num (riseF (rdI h0_4 (0 + v5.toNat) (0 + v34.toNat)).args (rdI h0_4 (0 + v5.toNat) (0 + v34.toNat)).into).fst (riseF (rdI h0_4 (0 + v5.toNat) (0 + v34.toNat)).args (rdI h0_4 (0 + v5.toNat) (0 + v34.toNat)).into).snd)) (0 + v5.toNat) (0 + v34.toNat)).num (rdI (wrI h0_4 (0 + v5.toNat) (0 + v34.toNat) (Ins.mk (rdI h0_4 (0 + v5.toNat) (0 + v34.toNat)).op (rdI h0_4 (0 + v5.toNat) (0 + v34.toNat)).type_ (rdI h0_4 (0 + v5.toNat) (0 + v34.toNat)).to_ (rdI h0_4 (0 + v5.toNat) (0 + v34.toNat)).sym_ (rdI h0_4 (0 + v5.toNat) (0 + v34.toNat)).num (riseF (rdI h0_4 (0 + v5.toNat) (0 + v34.toNat)).args (rdI h0_4 (0 + v5.toNat) (0 + v34.toNat)).into).fst (riseF (rdI h0_4 (0 + v5.toNat) (0 + v34.toNat)).args (rdI h0_4 (0 + v5.toNat) (0 + v34.toNat)).into).snd)) (0 + v5.toNat) (0 + v34.toNat)).args (rdI (wrI h0_4 (0 + v5.toNat) (0 + v34.toNat) (Ins.mk (rdI h0_4 (0 + v5.toNat) (0 + v34.toNat)).op (rdI h0_4 (0 + v5.toNat) (0 + v34.toNat)).type_ (rdI h0_4 (0 + v5.toNat) (0 + v34.toNat)).to_ (rdI h0_4 (0 + v5.toNat) (0 + v34.toNat)).sym_ (rdI h0_4 (0 + v5.toNat) (0 + v34.toNat)).num (riseF (rdI h0_4 (0 + v5.toNat) (0 + v34.toNat)).args (rdI h0_4 (0 + v5.toNat) (0 + v34.toNat)).into).fst (riseF (rdI h0_4 (0 + v5.toNat) (0 + v34.toNat)).args (rdI h0_4 (0 + v5.toNat) (0 + v34.toNat)).into).snd)) (0 + v5.toNat) (0 + v34.toNat)).into)) h1 h1_1 h1_2 h1_3 h1_4)
 else
 if (!match mget v3 (.int IntKind.i64 (rdI (wrI h0_4 (0 + v5.toNat) (0 + v34.toNat) (Ins.mk (rdI h0_4 (0 + v5.toNat) (0 + v34.toNat)).op (rdI h0_4 (0 + v5.toNat) (0 + v34.toNat)).type_ (rdI h0_4 (0 + v5.toNat) (0 + v34.toNat)).to_ (rdI h0_4 (0 + v5.toNat) (0 + v34.toNat)).sym_ (rdI h0_4 (0 + v5.toNat) (0 + v34.toNat)).num (riseF (rdI h0_4 (0 + v5.toNat) (0 + v34.toNat)).args (rdI h0_4 (0 + v5.toNat) (0 + v34.toNat)).into).fst (riseF (rdI h0_4 (0 + v5.toNat) (0 + v34.toNat)).args (rdI h0_4 (0 + v5.toNat) (0 + v34.toNat)).into).snd)) (0 + v5.toNat) (0 + v34.toNat)).to_) with | some val => true | none => false) = true then
 J k26_j3 (s26_j3 f (mput v3 (.int IntKind.i64 (rdI (wrI h0_4 (0 + v5.toNat) (0 + v34.toNat) (Ins.mk (rdI h0_4 (0 + v5.toNat) (0 + v34.toNat)).op (rdI h0_4 (0 + v5.toNat) (0 + v34.toNat)).type_ (rdI h0_4 (0 + v5.toNat) (0 + v34.toNat)).to_ (rdI h0_4 (0 + v5.toNat) (0 + v34.toNat)).sym_ (rdI h0_4 (0 + v5.toNat) (0 + v34.toNat)).num (riseF (rdI h0_4 (0 + v5.toNat) (0 + v34.toNat)).args (rdI h0_4 (0 + v5.toNat) (0 + v34.toNat)).into).fst (riseF (rdI h0_4 (0 + v5.toNat) (0 + v34.toNat)).args (rdI h0_4 (0 + v5.toNat) (0 + v34.toNat)).into).snd)) (0 + v5.toNat) (0 + v34.toNat)).to_) (IntKind.i64.wrap (v4 + 1))) (IntKind.i64.wrap (v4 + 1)) v5 v23 v24 v33 v34 h0 h0_1 h0_2 h0_3 (wrI (wrI h0_4 (0 + v5.toNat) (0 + v34.toNat) (Ins.mk (rdI h0_4 (0 + v5.toNat) (0 + v34.toNat)).op (rdI h0_4 (0 + v5.toNat) (0 + v34.toNat)).type_ (rdI h0_4 (0 + v5.toNat) (0 + v34.toNat)).to_ (rdI h0_4 (0 + v5.toNat) (0 + v34.toNat)).sym_ (rdI h0_4 (0 + v5.toNat) (0 + v34.toNat)).num (riseF (rdI h0_4 (0 + v5.toNat) (0 + v34.toNat)).args (rdI h0_4 (0 + v5.toNat) (0 + v34.toNat)).into).fst (riseF (rdI h0_4 (0 + v5.toNat) (0 + v34.toNat)).args (rdI h0_4 (0 + v5.toNat) (0 + v34.toNat)).into).snd)) (0 + v5.toNat) (0 + v34.toNat) (Ins.mk (rdI (wrI h0_4 (0 + v5.toNat) (0 + v34.toNat) (Ins.mk (rdI h0_4 (0 + v5.toNat) (0 + v34.toNat)).op (rdI h0_4 (0 + v5.toNat) (0 + v34.toNat)).type_ (rdI h0_4 (0 + v5.toNat) (0 + v34.toNat)).to_ (rdI h0_4 (0 + v5.toNat) (0 + v34.toNat)).sym_ (rdI h0_4 (0 + v5.toNat) (0 + v34.toNat)).num (riseF (rdI h0_4 (0 + v5.toNat) (0 + v34.toNat)).args (rdI h0_4 (0 + v5.toNat) (0 + v34.toNat)).into).fst (riseF (rdI h0_4 (0 + v5.toNat) (0 + v34.toNat)).args (rdI h0_4 (0 + v5.toNat) (0 + v34.toNat)).into).snd)) (0 + v5.toNat) (0 + v34.toNat)).op (rdI (wrI h0_4 (0 + v5.toNat) (0 + v34.toNat) (Ins.mk (rdI h0_4 (0 + v5.toNat) (0 + v34.toNat)).op (rdI h0_4 (0 + v5.toNat) (0 + v34.toNat)).type_ (rdI h0_4 (0 + v5.toNat) (0 + v34.toNat)).to_ (rdI h0_4 (0 + v5.toNat) (0 + v34.toNat)).sym_ (rdI h0_4 (0 + v5.toNat) (0 + v34.toNat)).num (riseF (rdI h0_4 (0 + v5.toNat) (0 + v34.toNat)).args (rdI h0_4 (0 + v5.toNat) (0 + v34.toNat)).into).fst (riseF (rdI h0_4 (0 + v5.toNat) (0 + v34.toNat)).args (rdI h0_4 (0 + v5.toNat) (0 + v34.toNat)).into).snd)) (0 + v5.toNat) (0 + v34.toNat)).type_ (IntKind.i64.wrap (v4 + 1)) (rdI (wrI h0_4 (0 + v5.toNat) (0 + v34.toNat) (Ins.mk (rdI h0_4 (0 + v5.toNat) (0 + v34.toNat)).op (rdI h0_4 (0 + v5.toNat) (0 + v34.toNat)).type_ (rdI h0_4 (0 + v5.toNat) (0 + v34.toNat)).to_ (rdI h0_4 (0 + v5.toNat) (0 + v34.toNat)).sym_ (rdI h0_4 (0 + v5.toNat) (0 + v34.toNat)).num (riseF (rdI h0_4 (0 + v5.toNat) (0 + v34.toNat)).args (rdI h0_4 (0 + v5.toNat) (0 + v34.toNat)).into).fst (riseF (rdI h0_4 (0 + v5.toNat) (0 + v34.toNat)).args (rdI h0_4 (0 + v5.toNat) (0 + v34.toNat)).into).snd)) (0 + v5.toNat) (0 + v34.toNat)).sym_ (rdI (wrI h0_4 (0 + v5.toNat) (0 + v34.toNat) (Ins.mk (rdI h0_4 (0 + v5.toNat) (0 + v34.toNat)).op (rdI h0_4 (0 + v5.toNat) (0 + v34.toNat)).type_ (rdI h0_4 (0 + v5.toNat) (0 + v34.toNat)).to_ (rdI h0_4 (0 + v5.toNat) (0 + v34.toNat)).sym_ (rdI h0_4 (0 + v5.toNat) (0 + v34.toNat)).num (riseF (rdI h0_4 (0 + v5.toNat) (0 + v34.toNat)).args (rdI h0_4 (0 + v5.toNat) (0 + v34.toNat)).into).fst (riseF (rdI h0_4 (0 + v5.toNat) (0 + v34.toNat)).args (rdI h0_4 (0 + v5.toNat) (0 + v34.toNat)).into).snd)) (0 + v5.toNat) (0 + v34.toNat)).num (rdI (wrI h0_4 (0 + v5.toNat) (0 + v34.toNat) (Ins.mk (rdI h0_4 (0 + v5.toNat) (0 + v34.toNat)).op (rdI h0_4 (0 + v5.toNat) (0 + v34.toNat)).type_ (rdI h0_4 (0 + v5.toNat) (0 + v34.toNat)).to_ (rdI h0_4 (0 + v5.toNat) (0 + v34.toNat)).sym_ (rdI h0_4 (0 + v5.toNat) (0 + v34.toNat)).num (riseF (rdI h0_4 (0 + v5.toNat) (0 + v34.toNat)).args (rdI h0_4 (0 + v5.toNat) (0 + v34.toNat)).into).fst (riseF (rdI h0_4 (0 + v5.toNat) (0 + v34.toNat)).args (rdI h0_4 (0 + v5.toNat) (0 + v34.toNat)).into).snd)) (0 + v5.toNat) (0 + v34.toNat)).args (rdI (wrI h0_4 (0 + v5.toNat) (0 + v34.toNat) (Ins.mk (rdI h0_4 (0 + v5.toNat) (0 + v34.toNat)).op (rdI h0_4 (0 + v5.toNat) (0 + v34.toNat)).type_ (rdI h0_4 (0 + v5.toNat) (0 + v34.toNat)).to_ (rdI h0_4 (0 + v5.toNat) (0 + v34.toNat)).sym_ (rdI h0_4 (0 + v5.toNat) (0 + v34.toNat)).num (riseF (rdI h0_4 (0 + v5.toNat) (0 + v34.toNat)).args (rdI h0_4 (0 + v5.toNat) (0 + v34.toNat)).into).fst (riseF (rdI h0_4 (0 + v5.toNat) (0 + v34.toNat)).args (rdI h0_4 (0 + v5.toNat) (0 + v34.toNat)).into).snd)) (0 + v5.toNat) (0 + v34.toNat)).into)) h1 h1_1 h1_2 h1_3 h1_4)
 else
 J k26_j3 (s26_j3 f v3 (IntKind.i64.wrap (v4 + 1)) v5 v23 v24 v33 v34 h0 h0_1 h0_2 h0_3 (wrI (wrI h0_4 (0 + v5.toNat) (0 + v34.toNat) (Ins.mk (rdI h0_4 (0 + v5.toNat) (0 + v34.toNat)).op (rdI h0_4 (0 + v5.toNat) (0 + v34.toNat)).type_ (rdI h0_4 (0 + v5.toNat) (0 + v34.toNat)).to_ (rdI h0_4 (0 + v5.toNat) (0 + v34.toNat)).sym_ (rdI h0_4 (0 + v5.toNat) (0 + v34.toNat)).num (riseF (rdI h0_4 (0 + v5.toNat) (0 + v34.toNat)).args (rdI h0_4 (0 + v5.toNat) (0 + v34.toNat)).into).fst (riseF (rdI h0_4 (0 + v5.toNat) (0 + v34.toNat)).args (rdI h0_4 (0 + v5.toNat) (0 + v34.toNat)).into).snd)) (0 + v5.toNat) (0 + v34.toNat) (Ins.mk (rdI (wrI h0_4 (0 + v5.toNat) (0 + v34.toNat) (Ins.mk (rdI h0_4 (0 + v5.toNat) (0 + v34.toNat)).op (rdI h0_4 (0 + v5.toNat) (0 + v34.toNat)).type_ (rdI h0_4 (0 + v5.toNat) (0 + v34.toNat)).to_ (rdI h0_4 (0 + v5.toNat) (0 + v34.toNat)).sym_ (rdI h0_4 (0 + v5.toNat) (0 + v34.toNat)).num (riseF (rdI h0_4 (0 + v5.toNat) (0 + v34.toNat)).args (rdI h0_4 (0 + v5.toNat) (0 + v34.toNat)).into).fst (riseF (rdI h0_4 (0 + v5.toNat) (0 + v34.toNat)).args (rdI h0_4 (0 + v5.toNat) (0 + v34.toNat)).into).snd)) (0 + v5.toNat) (0 + v34.toNat)).op (rdI (wrI h0_4 (0 + v5.toNat) (0 + v34.toNat) (Ins.mk (rdI h0_4 (0 + v5.toNat) (0 + v34.toNat)).op (rdI h0_4 (0 + v5.toNat) (0 + v34.toNat)).type_ (rdI h0_4 (0 + v5.toNat) (0 + v34.toNat)).to_ (rdI h0_4 (0 + v5.toNat) (0 + v34.toNat)).sym_ (rdI h0_4 (0 + v5.toNat) (0 + v34.toNat)).num (riseF (rdI h0_4 (0 + v5.toNat) (0 + v34.toNat)).args (rdI h0_4 (0 + v5.toNat) (0 + v34.toNat)).into).fst (riseF (rdI h0_4 (0 + v5.toNat) (0 + v34.toNat)).args (rdI h0_4 (0 + v5.toNat) (0 + v34.toNat)).into).snd)) (0 + v5.toNat) (0 + v34.toNat)).type_ (IntKind.i64.wrap (v4 + 1)) (rdI (wrI h0_4 (0 + v5.toNat) (0 + v34.toNat) (Ins.mk (rdI h0_4 (0 + v5.toNat) (0 + v34.toNat)).op (rdI h0_4 (0 + v5.toNat) (0 + v34.toNat)).type_ (rdI h0_4 (0 + v5.toNat) (0 + v34.toNat)).to_ (rdI h0_4 (0 + v5.toNat) (0 + v34.toNat)).sym_ (rdI h0_4 (0 + v5.toNat) (0 + v34.toNat)).num (riseF (rdI h0_4 (0 + v5.toNat) (0 + v34.toNat)).args (rdI h0_4 (0 + v5.toNat) (0 + v34.toNat)).into).fst (riseF (rdI h0_4 (0 + v5.toNat) (0 + v34.toNat)).args (rdI h0_4 (0 + v5.toNat) (0 + v34.toNat)).into).snd)) (0 + v5.toNat) (0 + v34.toNat)).sym_ (rdI (wrI h0_4 (0 + v5.toNat) (0 + v34.toNat) (Ins.mk (rdI h0_4 (0 + v5.toNat) (0 + v34.toNat)).op (rdI h0_4 (0 + v5.toNat) (0 + v34.toNat)).type_ (rdI h0_4 (0 + v5.toNat) (0 + v34.toNat)).to_ (rdI h0_4 (0 + v5.toNat) (0 + v34.toNat)).sym_ (rdI h0_4 (0 + v5.toNat) (0 + v34.toNat)).num (riseF (rdI h0_4 (0 + v5.toNat) (0 + v34.toNat)).args (rdI h0_4 (0 + v5.toNat) (0 + v34.toNat)).into).fst (riseF (rdI h0_4 (0 + v5.toNat) (0 + v34.toNat)).args (rdI h0_4 (0 + v5.toNat) (0 + v34.toNat)).into).snd)) (0 + v5.toNat) (0 + v34.toNat)).num (rdI (wrI h0_4 (0 + v5.toNat) (0 + v34.toNat) (Ins.mk (rdI h0_4 (0 + v5.toNat) (0 + v34.toNat)).op (rdI h0_4 (0 + v5.toNat) (0 + v34.toNat)).type_ (rdI h0_4 (0 + v5.toNat) (0 + v34.toNat)).to_ (rdI h0_4 (0 + v5.toNat) (0 + v34.toNat)).sym_ (rdI h0_4 (0 + v5.toNat) (0 + v34.toNat)).num (riseF (rdI h0_4 (0 + v5.toNat) (0 + v34.toNat)).args (rdI h0_4 (0 + v5.toNat) (0 + v34.toNat)).into).fst (riseF (rdI h0_4 (0 + v5.toNat) (0 + v34.toNat)).args (rdI h0_4 (0 + v5.toNat) (0 + v34.toNat)).into).snd)) (0 + v5.toNat) (0 + v34.toNat)).args (rdI (wrI h0_4 (0 + v5.toNat) (0 + v34.toNat) (Ins.mk (rdI h0_4 (0 + v5.toNat) (0 + v34.toNat)).op (rdI h0_4 (0 + v5.toNat) (0 + v34.toNat)).type_ (rdI h0_4 (0 + v5.toNat) (0 + v34.toNat)).to_ (rdI h0_4 (0 + v5.toNat) (0 + v34.toNat)).sym_ (rdI h0_4 (0 + v5.toNat) (0 + v34.toNat)).num (riseF (rdI h0_4 (0 + v5.toNat) (0 + v34.toNat)).args (rdI h0_4 (0 + v5.toNat) (0 + v34.toNat)).into).fst (riseF (rdI h0_4 (0 + v5.toNat) (0 + v34.toNat)).args (rdI h0_4 (0 + v5.toNat) (0 + v34.toNat)).into).snd)) (0 + v5.toNat) (0 + v34.toNat)).into)) h1 h1_1 h1_2 h1_3 h1_4)
 else none
 else
 if ((rdI h0_4 (0 + v5.toNat) (0 + v34.toNat)).type_ == 0) = true then
 J k26_j3 (s26_j3 f v3 v4 v5 v23 v24 v33 v34 h0 h0_1 h0_2 h0_3 (wrI h0_4 (0 + v5.toNat) (0 + v34.toNat) (Ins.mk (rdI h0_4 (0 + v5.toNat) (0 + v34.toNat)).op (rdI h0_4 (0 + v5.toNat) (0 + v34.toNat)).type_ 0 (rdI h0_4 (0 + v5.toNat) (0 + v34.toNat)).sym_ (rdI h0_4 (0 + v5.toNat) (0 + v34.toNat)).num (rdI h0_4 (0 + v5.toNat) (0 + v34.toNat)).args (rdI h0_4 (0 + v5.toNat) (0 + v34.toNat)).into)) h1 h1_1 h1_2 h1_3 h1_4)
 else
 if (!match mget v3 (.int IntKind.i64 (rdI h0_4 (0 + v5.toNat) (0 + v34.toNat)).to_) with | some val => true | none => false) = true then
 J k26_j3 (s26_j3 f (mput v3 (.int IntKind.i64 (rdI h0_4 (0 + v5.toNat) (0 + v34.toNat)).to_) (IntKind.i64.wrap (v4 + 1))) (IntKind.i64.wrap (v4 + 1)) v5 v23 v24 v33 v34 h0 h0_1 h0_2 h0_3 (wrI h0_4 (0 + v5.toNat) (0 + v34.toNat) (Ins.mk (rdI h0_4 (0 + v5.toNat) (0 + v34.toNat)).op (rdI h0_4 (0 + v5.toNat) (0 + v34.toNat)).type_ (IntKind.i64.wrap (v4 + 1)) (rdI h0_4 (0 + v5.toNat) (0 + v34.toNat)).sym_ (rdI h0_4 (0 + v5.toNat) (0 + v34.toNat)).num (rdI h0_4 (0 + v5.toNat) (0 + v34.toNat)).args (rdI h0_4 (0 + v5.toNat) (0 + v34.toNat)).into)) h1 h1_1 h1_2 h1_3 h1_4)
 else
 J k26_j3 (s26_j3 f v3 (IntKind.i64.wrap (v4 + 1)) v5 v23 v24 v33 v34 h0 h0_1 h0_2 h0_3 (wrI h0_4 (0 + v5.toNat) (0 + v34.toNat) (Ins.mk (rdI h0_4 (0 + v5.toNat) (0 + v34.toNat)).op (rdI h0_4 (0 + v5.toNat) (0 + v34.toNat)).type_ (IntKind.i64.wrap (v4 + 1)) (rdI h0_4 (0 + v5.toNat) (0 + v34.toNat)).sym_ (rdI h0_4 (0 + v5.toNat) (0 + v34.toNat)).num (rdI h0_4 (0 + v5.toNat) (0 + v34.toNat)).args (rdI h0_4 (0 + v5.toNat) (0 + v34.toNat)).into)) h1 h1_1 h1_2 h1_3 h1_4)
 else
 if ((rdI h0_4 (0 + v5.toNat) (0 + v34.toNat)).type_ == 0) = true then
 J k26_j3 (s26_j3 f v3 v4 v5 v23 v24 v33 v34 h0 h0_1 h0_2 h0_3 (wrI h0_4 (0 + v5.toNat) (0 + v34.toNat) (Ins.mk (rdI h0_4 (0 + v5.toNat) (0 + v34.toNat)).op (rdI h0_4 (0 + v5.toNat) (0 + v34.toNat)).type_ 0 (rdI h0_4 (0 + v5.toNat) (0 + v34.toNat)).sym_ (rdI h0_4 (0 + v5.toNat) (0 + v34.toNat)).num (rdI h0_4 (0 + v5.toNat) (0 + v34.toNat)).args (rdI h0_4 (0 + v5.toNat) (0 + v34.toNat)).into)) h1 h1_1 h1_2 h1_3 h1_4)
 else
 if (!match mget v3 (.int IntKind.i64 (rdI h0_4 (0 + v5.toNat) (0 + v34.toNat)).to_) with | some val => true | none => false) = true then
 J k26_j3 (s26_j3 f (mput v3 (.int IntKind.i64 (rdI h0_4 (0 + v5.toNat) (0 + v34.toNat)).to_) (IntKind.i64.wrap (v4 + 1))) (IntKind.i64.wrap (v4 + 1)) v5 v23 v24 v33 v34 h0 h0_1 h0_2 h0_3 (wrI h0_4 (0 + v5.toNat) (0 + v34.toNat) (Ins.mk (rdI h0_4 (0 + v5.toNat) (0 + v34.toNat)).op (rdI h0_4 (0 + v5.toNat) (0 + v34.toNat)).type_ (IntKind.i64.wrap (v4 + 1)) (rdI h0_4 (0 + v5.toNat) (0 + v34.toNat)).sym_ (rdI h0_4 (0 + v5.toNat) (0 + v34.toNat)).num (rdI h0_4 (0 + v5.toNat) (0 + v34.toNat)).args (rdI h0_4 (0 + v5.toNat) (0 + v34.toNat)).into)) h1 h1_1 h1_2 h1_3 h1_4)
 else
 J k26_j3 (s26_j3 f v3 (IntKind.i64.wrap (v4 + 1)) v5 v23 v24 v33 v34 h0 h0_1 h0_2 h0_3 (wrI h0_4 (0 + v5.toNat) (0 + v34.toNat) (Ins.mk (rdI h0_4 (0 + v5.toNat) (0 + v34.toNat)).op (rdI h0_4 (0 + v5.toNat) (0 + v34.toNat)).type_ (IntKind.i64.wrap (v4 + 1)) (rdI h0_4 (0 + v5.toNat) (0 + v34.toNat)).sym_ (rdI h0_4 (0 + v5.toNat) (0 + v34.toNat)).num (rdI h0_4 (0 + v5.toNat) (0 + v34.toNat)).args (rdI h0_4 (0 + v5.toNat) (0 + v34.toNat)).into)) h1 h1_1 h1_2 h1_3 h1_4)
 else none
 else none
 else none
 else none
 else
 J k26_j2 (s26_j2 f v3 v4 v23 v24 h0 h0_1 h0_2 h0_3 h0_4 h1 h1_1 h1_2 h1_3 h1_4) := by kernel_rfl
theorem e26_j0 (J f v3 h0 h0_1 h0_2 h0_3 h0_4 h1 h1_1 h1_2 h1_3 h1_4) : run tb C26 U26 J (R26 f) 4096 k26_j0 (s26_j0 f v3 h0 h0_1 h0_2 h0_3 h0_4 h1 h1_1 h1_2 h1_3 h1_4) =
 J k26_l4 (s26_l4 f v3 ((↑h0_4.length : Int)) 0 h0 h0_1 h0_2 h0_3 h0_4 h1 h1_1 h1_2 h1_3 h1_4) := by kernel_rfl
theorem e26_j3 (J f v3 v4 v5 v23 v24 v33 v34 h0 h0_1 h0_2 h0_3 h0_4 h1 h1_1 h1_2 h1_3 h1_4) : run tb C26 U26 J (R26 f) 4096 k26_j3 (s26_j3 f v3 v4 v5 v23 v24 v33 v34 h0 h0_1 h0_2 h0_3 h0_4 h1 h1_1 h1_2 h1_3 h1_4) =
 J k26_l2 (s26_l2 f v3 v4 v5 v23 v24 v33 (IntKind.i64.wrap (v34 + 1)) h0 h0_1 h0_2 h0_3 h0_4 h1 h1_1 h1_2 h1_3 h1_4) := by kernel_rfl
theorem e26_j2 (J f v3 v4 v23 v24 h0 h0_1 h0_2 h0_3 h0_4 h1 h1_1 h1_2 h1_3 h1_4) : run tb C26 U26 J (R26 f) 4096 k26_j2 (s26_j2 f v3 v4 v23 v24 h0 h0_1 h0_2 h0_3 h0_4 h1 h1_1 h1_2 h1_3 h1_4) =
 J k26_j1 (s26_j1 f v3 v4 v23 v24 h0 h0_1 h0_2 h0_3 h0_4 h1 h1_1 h1_2 h1_3 h1_4) := by kernel_rfl
theorem e26_l4 (J f v3 v100 v101 h0 h0_1 h0_2 h0_3 h0_4 h1 h1_1 h1_2 h1_3 h1_4) : run tb C26 U26 J (R26 f) 4096 k26_l4 (s26_l4 f v3 v100 v101 h0 h0_1 h0_2 h0_3 h0_4 h1 h1_1 h1_2 h1_3 h1_4) =
 if decide (v101 < v100) = true then
 if 0 ≤ v101 then
 if v101 < (↑h0_4.length : Int) then
 J k26_l6 (s26_l6 f v3 v100 v101 (0 + v101.toNat) ((↑(h0_4.getD (0 + v101.toNat) (Block.mk [])).ins.length : Int)) 0 h0 h0_1 h0_2 h0_3 h0_4 h1 h1_1 h1_2 h1_3 h1_4)
 else none
 else none
 else
 J k26_j4 (s26_j4 f h0 h0_1 h0_2 h0_3 h0_4 h1 h1_1 h1_2 h1_3 h1_4) := by kernel_rfl
theorem e26_j1 (J f v3 v4 v23 v24 h0 h0_1 h0_2 h0_3 h0_4 h1 h1_1 h1_2 h1_3 h1_4) : run tb C26 U26 J (R26 f) 4096 k26_j1 (s26_j1 f v3 v4 v23 v24 h0 h0_1 h0_2 h0_3 h0_4 h1 h1_1 h1_2 h1_3 h1_4) =
 J k26_l0 (s26_l0 f v3 v4 v23 (IntKind.i64.wrap (v24 + 1)) h0 h0_1 h0_2 h0_3 h0_4 h1 h1_1 h1_2 h1_3 h1_4) := by kernel_rfl
theorem e26_l6 (J f v3 v100 v101 v109 v110 v111 h0 h0_1 h0_2 h0_3 h0_4 h1 h1_1 h1_2 h1_3 h1_4) : run tb C26 U26 J (R26 f) 4096 k26_l6 (s26_l6 f v3 v100 v101 v109 v110 v111 h0 h0_1 h0_2 h0_3 h0_4 h1 h1_1 h1_2 h1_3 h1_4) =
 if decide (v111 < v110) = true then
 if 0 ≤ v111 then
 if v111 < (↑(h0_4.getD v109 (Block.mk [])).ins.length : Int) then
 J k26_l8 (s26_l8 f v3 ((rdI h0_4 v109 (0 + v111.toNat)).op) ((rdI h0_4 v109 (0 + v111.toNat)).type_) ((rdI h0_4 v109 (0 + v111.toNat)).to_) ((rdI h0_4 v109 (0 + v111.toNat)).sym_) ((rdI h0_4 v109 (0 + v111.toNat)).num) v109 (0 + v111.toNat) false v109 (0 + v111.toNat) false v100 v101 v109 v110 v111 v109 (0 + v111.toNat) ((↑(rdI h0_4 v109 (0 + v111.toNat)).args.length : Int)) 0 h0 h0_1 h0_2 h0_3 h0_4 h1 h1_1 h1_2 h1_3 h1_4)
 else none
 else none
 else
 J k26_j6 (s26_j6 f v3 v100 v101 h0 h0_1 h0_2 h0_3 h0_4 h1 h1_1 h1_2 h1_3 h1_4) := by kernel_rfl
theorem e26_j4 (J f h0 h0_1 h0_2 h0_3 h0_4 h1 h1_1 h1_2 h1_3 h1_4) : run tb C26 U26 J (R26 f) 4096 k26_j4 (s26_j4 f h0 h0_1 h0_2 h0_3 h0_4 h1 h1_1 h1_2 h1_3 h1_4) =
 some (.agg [.v (.string h0), .v (.bool h0_1), .sl true 3 h0_2, .v (.int .i64 h0_3), .sl true 44 h0_4], [.dead]) := by kernel_rfl
theorem e26_l8 (J f v3 v12 v12_1 v12_2 v12_3 v12_4 v12_5 v12_6 v12_7 v12_8 v12_9 v12_10 v100 v101 v109 v110 v111 v116 v116_1 v117 v118 h0 h0_1 h0_2 h0_3 h0_4 h1 h1_1 h1_2 h1_3 h1_4) : run tb C26 U26 J (R26 f) 4096 k26_l8 (s26_l8 f v3 v12 v12_1 v12_2 v12_3 v12_4 v12_5 v12_6 v12_7 v12_8 v12_9 v12_10 v100 v101 v109 v110 v111 v116 v116_1 v117 v118 h0 h0_1 h0_2 h0_3 h0_4 h1 h1_1 h1_2 h1_3 h1_4) =
 if decide (v118 < v117) = true then
 if 0 ≤ v118 then
 if v118 < (↑(rdI h0_4 v116 v116_1).args.length : Int) then
 if decide ((rdI h0_4 v116 v116_1).args.getD (0 + v118.toNat) 0 ≥ 1) = true then
 if decide ((rdI h0_4 v116 v116_1).args.getD (0 + v118.toNat) 0 ≤ (↑h0_2.length : Int)) = true then
 J k26_j9 (s26_j9 f v3 v12 v12_1 v12_2 v12_3 v12_4 v12_5 v12_6 v12_7 v12_8 v12_9 v12_10 v100 v101 v109 v110 v111 v116 v116_1 v117 v118 h0 h0_1 h0_2 h0_3 h0_4 h1 h1_1 h1_2 h1_3 h1_4)
 else
 if 0 ≤ v118 then
 if v118 < (↑(rdI h0_4 v12_5 v12_6).args.length : Int) then
 J k26_j9 (s26_j9 f v3 v12 v12_1 v12_2 v12_3 v12_4 v12_5 v12_6 v12_7 v12_8 v12_9 v12_10 v100 v101 v109 v110 v111 v116 v116_1 v117 v118 h0 h0_1 h0_2 h0_3 (wrI h0_4 v12_5 v12_6 (Ins.mk (rdI h0_4 v12_5 v12_6).op (rdI h0_4 v12_5 v12_6).type_ (rdI h0_4 v12_5 v12_6).to_ (rdI h0_4 v12_5 v12_6).sym_ (rdI h0_4 v12_5 v12_6).num ((rdI h0_4 v12_5 v12_6).args.set (0 + v118.toNat) (match mget v3 (.int IntKind.i64 ((rdI h0_4 v116 v116_1).args.getD (0 + v118.toNat) 0)) with | some x => x | none => 0)) (rdI h0_4 v12_5 v12_6).into)) h1 h1_1 h1_2 h1_3 h1_4)
 else none
 else none
 else
 if 0 ≤ v118 then
 if v118 < (↑(rdI h0_4 v12_5 v12_6).args.length : Int) then
 J k26_j9 (s26_j9 f v3 v12 v12_1 v12_2 v12_3 v12_4 v12_5 v12_6 v12_7 v12_8 v12_9 v12_10 v100 v101 v109 v110 v111 v116 v116_1 v117 v118 h0 h0_1 h0_2 h0_3 (wrI h0_4 v12_5 v12_6 (Ins.mk (rdI h0_4 v12_5 v12_6).op (rdI h0_4 v12_5 v12_6).type_ (rdI h0_4 v12_5 v12_6).to_ (rdI h0_4 v12_5 v12_6).sym_ (rdI h0_4 v12_5 v12_6).num ((rdI h0_4 v12_5 v12_6).args.set (0 + v118.toNat) (match mget v3 (.int IntKind.i64 ((rdI h0_4 v116 v116_1).args.getD (0 + v118.toNat) 0)) with | some x => x | none => 0)) (rdI h0_4 v12_5 v12_6).into)) h1 h1_1 h1_2 h1_3 h1_4)
 else none
 else none
 else none
 else none
 else
 J k26_j8 (s26_j8 f v3 v100 v101 v109 v110 v111 h0 h0_1 h0_2 h0_3 h0_4 h1 h1_1 h1_2 h1_3 h1_4) := by kernel_rfl
theorem e26_j6 (J f v3 v100 v101 h0 h0_1 h0_2 h0_3 h0_4 h1 h1_1 h1_2 h1_3 h1_4) : run tb C26 U26 J (R26 f) 4096 k26_j6 (s26_j6 f v3 v100 v101 h0 h0_1 h0_2 h0_3 h0_4 h1 h1_1 h1_2 h1_3 h1_4) =
 J k26_j5 (s26_j5 f v3 v100 v101 h0 h0_1 h0_2 h0_3 h0_4 h1 h1_1 h1_2 h1_3 h1_4) := by kernel_rfl
theorem e26_j9 (J f v3 v12 v12_1 v12_2 v12_3 v12_4 v12_5 v12_6 v12_7 v12_8 v12_9 v12_10 v100 v101 v109 v110 v111 v116 v116_1 v117 v118 h0 h0_1 h0_2 h0_3 h0_4 h1 h1_1 h1_2 h1_3 h1_4) : run tb C26 U26 J (R26 f) 4096 k26_j9 (s26_j9 f v3 v12 v12_1 v12_2 v12_3 v12_4 v12_5 v12_6 v12_7 v12_8 v12_9 v12_10 v100 v101 v109 v110 v111 v116 v116_1 v117 v118 h0 h0_1 h0_2 h0_3 h0_4 h1 h1_1 h1_2 h1_3 h1_4) =
 J k26_l8 (s26_l8 f v3 v12 v12_1 v12_2 v12_3 v12_4 v12_5 v12_6 v12_7 v12_8 v12_9 v12_10 v100 v101 v109 v110 v111 v116 v116_1 v117 (IntKind.i64.wrap (v118 + 1)) h0 h0_1 h0_2 h0_3 h0_4 h1 h1_1 h1_2 h1_3 h1_4) := by kernel_rfl
theorem e26_j8 (J f v3 v100 v101 v109 v110 v111 h0 h0_1 h0_2 h0_3 h0_4 h1 h1_1 h1_2 h1_3 h1_4) : run tb C26 U26 J (R26 f) 4096 k26_j8 (s26_j8 f v3 v100 v101 v109 v110 v111 h0 h0_1 h0_2 h0_3 h0_4 h1 h1_1 h1_2 h1_3 h1_4) =
 J k26_j7 (s26_j7 f v3 v100 v101 v109 v110 v111 h0 h0_1 h0_2 h0_3 h0_4 h1 h1_1 h1_2 h1_3 h1_4) := by kernel_rfl
theorem e26_j5 (J f v3 v100 v101 h0 h0_1 h0_2 h0_3 h0_4 h1 h1_1 h1_2 h1_3 h1_4) : run tb C26 U26 J (R26 f) 4096 k26_j5 (s26_j5 f v3 v100 v101 h0 h0_1 h0_2 h0_3 h0_4 h1 h1_1 h1_2 h1_3 h1_4) =
 J k26_l4 (s26_l4 f v3 v100 (IntKind.i64.wrap (v101 + 1)) h0 h0_1 h0_2 h0_3 h0_4 h1 h1_1 h1_2 h1_3 h1_4) := by kernel_rfl
theorem e26_j7 (J f v3 v100 v101 v109 v110 v111 h0 h0_1 h0_2 h0_3 h0_4 h1 h1_1 h1_2 h1_3 h1_4) : run tb C26 U26 J (R26 f) 4096 k26_j7 (s26_j7 f v3 v100 v101 v109 v110 v111 h0 h0_1 h0_2 h0_3 h0_4 h1 h1_1 h1_2 h1_3 h1_4) =
 J k26_l6 (s26_l6 f v3 v100 v101 v109 v110 (IntKind.i64.wrap (v111 + 1)) h0 h0_1 h0_2 h0_3 h0_4 h1 h1_1 h1_2 h1_3 h1_4) := by kernel_rfl

theorem in26 : Entered 26 := ⟨Try.f26, b26, by kernel_rfl, by kernel_rfl, by kernel_rfl⟩
theorem fn26 (f : Ev.Func) {res : AV Ty} {outs : List (AV Ty)} (h : Ends C26 U26 (R26 f) [.code b26] ⟨slotsA (a26 f) 0 0, heapA (a26 f)⟩ (some (res, outs))) : CallOk tb Try.prog 26 (a26 f) res outs := by
  obtain ⟨n0, hn⟩ := h
  exact fn_ok (C := C26) (U := U26) (n := 0 + n0) (q := .keep) tbOk good (fun f mu S h => by
    unfold C26 at h
    simp only at h
    split at h
    · cases h; exact ⟨in76, S76_ok⟩
    · cases h; exact ⟨in77, S77_ok⟩
    · cases h) mixed (fn := Try.f26) (body := b26) (by kernel_rfl) (by kernel_rfl) rfl rfl (by show 1 ≤ 143; omega) (hn 0)
section
variable {f : Ev.Func}
abbrev st26 (f : Ev.Func) (m : List (Value × Int)) (n N A : Nat) (l : List Ev.Block) : St Ty := s26_l0 f m n N A f.name f.out f.params f.result l ByteArray.empty false [] 0 []
abbrev in26s (f : Ev.Func) (m : List (Value × Int)) (n N A M k : Nat) (l : List Ev.Block) : St Ty := s26_l2 f m n A N A M k f.name f.out f.params f.result l ByteArray.empty false [] 0 []
theorem getD_match (o : Option Int) : (match o with | some x => x | none => 0) = o.getD 0 := by cases o <;> rfl
/-- One instruction is numbered. -/
theorem Num.one {A C : List Ev.Block} {P Q : List Ev.Ins} {i : Ev.Ins} {m : List (Value × Int)} {n N M : Nat} (hi : okIns i) (hn : n ≤ 2000000) (hP : P.length ≤ 1000) (hM : P.length < M) (hA : A.length ≤ 1000) :
    Goes C26 U26 (R26 f) k26_l2 (in26s f m n N A.length M P.length (A ++ Block.mk (P ++ i :: Q) :: C)) k26_l2 (in26s f (map1 m n i) (step1 n i) N A.length M (P.length + 1) (A ++ Block.mk (P ++ num1 n i :: Q) :: C)) := by
  have a1 : A.length < (A ++ Block.mk (P ++ i :: Q) :: C).length := by simp only [List.length_append, List.length_cons]; omega
  have a2 : P.length < (P ++ i :: Q).length := by simp only [List.length_append, List.length_cons]; omega
  have w1 : IntKind.i64.wrap ((n : Int) + 1) = ((n + 1 : Nat) : Int) := wrap_nat rfl (by omega)
  have two : ∀ (m' : List (Value × Int)) (n' : Nat) (l' : List Ev.Block), (∀ J : List Item → St Ty → EvR, run tb C26 U26 J (R26 f) 4096 k26_l2 (in26s f m n N A.length M P.length (A ++ Block.mk (P ++ i :: Q) :: C)) = J k26_j3 (s26_j3 f m' n' A.length N A.length M P.length f.name f.out f.params f.result l' ByteArray.empty false [] 0 [])) →
      Goes C26 U26 (R26 f) k26_l2 (in26s f m n N A.length M P.length (A ++ Block.mk (P ++ i :: Q) :: C)) k26_l2 (in26s f m' n' N A.length M (P.length + 1) l') := fun m' n' l' h => by
    refine Goes.trans (.step h) (.step fun J => ?_)
    rw [e26_j3]
    simp (disch := first | omega | assumption | (rw [decide_eq_true_eq]; omega) | (rw [decide_eq_false_iff_not]; omega)) only [↓if_pos, ↓if_neg, if_true, if_false, wrap_up, Int.toNat_natCast, Nat.zero_add]
    rfl
  by_cases ht : i.type_ = 0
  · have e1 : map1 m n i = m := by unfold map1; rw [if_pos ht]
    have e2 : step1 n i = n := by unfold step1; rw [if_pos ht]
    rw [e1, e2]
    refine two _ _ _ fun J => ?_
    rw [in26s, e26_l2]
    simp only [Int.toNat_natCast, Nat.zero_add, rdI_mid, wrI_mid, blk_mid]
    have t1 : (i.type_ == (0 : Int)) = true := by simp [ht]
    by_cases hp : i.op = 26
    · have t2 : (i.op == (26 : Int)) = true := by simp [hp]
      by_cases hq : i.args.length = i.into.length
      · have t3 : ((i.args.length : Int) == (i.into.length : Int)) = true := by simp [hq]
        have t4 : i.args.length = i.into.length ∧ i.into.length ≤ 1000 := ⟨hq, hi.2⟩
        rw [if_pos t2, if_pos t3, if_pos t4, if_pos t1]
        simp (disch := first | omega | assumption | (rw [decide_eq_true_eq]; omega) | (rw [decide_eq_false_iff_not]; omega)) only [↓if_pos, ↓if_neg, if_true, if_false, wrap_up, Int.toNat_natCast, Nat.zero_add]
        unfold num1 risI
        rw [if_pos ⟨hp, hq⟩, if_pos ht]
      · have t3 : ¬ ((i.args.length : Int) == (i.into.length : Int)) = true := by simp; omega
        rw [if_pos t2, if_neg t3, if_pos t1]
        simp (disch := first | omega | assumption | (rw [decide_eq_true_eq]; omega) | (rw [decide_eq_false_iff_not]; omega)) only [↓if_pos, ↓if_neg, if_true, if_false, wrap_up, Int.toNat_natCast, Nat.zero_add]
        unfold num1 risI
        rw [if_neg (fun h => hq h.2), if_pos ht]
    · have t2 : ¬ (i.op == (26 : Int)) = true := by simp [hp]
      rw [if_neg t2, if_pos t1]
      simp (disch := first | omega | assumption | (rw [decide_eq_true_eq]; omega) | (rw [decide_eq_false_iff_not]; omega)) only [↓if_pos, ↓if_neg, if_true, if_false, wrap_up, Int.toNat_natCast, Nat.zero_add]
      unfold num1 risI
      rw [if_neg (fun h => hp h.1), if_pos ht]
  · have e2 : step1 n i = n + 1 := by unfold step1; rw [if_neg ht]
    rw [e2]
    refine two _ _ _ fun J => ?_
    rw [in26s, e26_l2]
    simp only [Int.toNat_natCast, Nat.zero_add, rdI_mid, wrI_mid, blk_mid, w1]
    have t1 : ¬ (i.type_ == (0 : Int)) = true := by simp [ht]
    have fin : ∀ (x y : EvR), (mget m (key i.to_) = none → x = J k26_j3 (s26_j3 f (mput m (key i.to_) ((n + 1 : Nat) : Int)) (n + 1 : Nat) A.length N A.length M P.length f.name f.out f.params f.result (A ++ Block.mk (P ++ num1 n i :: Q) :: C) ByteArray.empty false [] 0 [])) →
        ((mget m (key i.to_)).isSome → y = J k26_j3 (s26_j3 f m (n + 1 : Nat) A.length N A.length M P.length f.name f.out f.params f.result (A ++ Block.mk (P ++ num1 n i :: Q) :: C) ByteArray.empty false [] 0 [])) →
        (if (!match mget m (key i.to_) with | some val => true | none => false) = true then x else y) = J k26_j3 (s26_j3 f (map1 m n i) (n + 1 : Nat) A.length N A.length M P.length f.name f.out f.params f.result (A ++ Block.mk (P ++ num1 n i :: Q) :: C) ByteArray.empty false [] 0 []) := fun x y hx hy => by
      unfold map1
      rw [if_neg ht]
      cases hk : mget m (key i.to_) with
      | none => simpa using hx hk
      | some v => simpa using hy (by rw [hk]; rfl)
    by_cases hp : i.op = 26
    · have t2 : (i.op == (26 : Int)) = true := by simp [hp]
      by_cases hq : i.args.length = i.into.length
      · have t3 : ((i.args.length : Int) == (i.into.length : Int)) = true := by simp [hq]
        have t4 : i.args.length = i.into.length ∧ i.into.length ≤ 1000 := ⟨hq, hi.2⟩
        rw [if_pos t2, if_pos t3, if_pos t4, if_neg t1]
        simp (disch := first | omega | assumption | (rw [decide_eq_true_eq]; omega) | (rw [decide_eq_false_iff_not]; omega)) only [↓if_pos, ↓if_neg, if_true, if_false, wrap_up, Int.toNat_natCast, Nat.zero_add]
        refine fin _ _ (fun _ => ?_) fun _ => ?_
        all_goals
          unfold num1 risI
          rw [if_pos ⟨hp, hq⟩, if_neg ht] <;> rfl
      · have t3 : ¬ ((i.args.length : Int) == (i.into.length : Int)) = true := by simp; omega
        rw [if_pos t2, if_neg t3, if_neg t1]
        simp (disch := first | omega | assumption | (rw [decide_eq_true_eq]; omega) | (rw [decide_eq_false_iff_not]; omega)) only [↓if_pos, ↓if_neg, if_true, if_false, wrap_up, Int.toNat_natCast, Nat.zero_add]
        refine fin _ _ (fun _ => ?_) fun _ => ?_
        all_goals
          unfold num1 risI
          rw [if_neg (fun h => hq h.2), if_neg ht] <;> rfl
    · have t2 : ¬ (i.op == (26 : Int)) = true := by simp [hp]
      rw [if_neg t2, if_neg t1]
      simp (disch := first | omega | assumption | (rw [decide_eq_true_eq]; omega) | (rw [decide_eq_false_iff_not]; omega)) only [↓if_pos, ↓if_neg, if_true, if_false, wrap_up, Int.toNat_natCast, Nat.zero_add]
      refine fin _ _ (fun _ => ?_) fun _ => ?_
      all_goals
        unfold num1 risI
        rw [if_neg (fun h => hp h.1), if_neg ht] <;> rfl
theorem Num.row {A C : List Ev.Block} {N M : Nat} (hA : A.length ≤ 1000) (hM : M ≤ 1000) : ∀ (Q P : List Ev.Ins) (m : List (Value × Int)) (n : Nat), M = P.length + Q.length → (∀ i, i ∈ Q → okIns i) → n + Q.length ≤ 2000000 →
    Goes C26 U26 (R26 f) k26_l2 (in26s f m n N A.length M P.length (A ++ Block.mk (P ++ Q) :: C)) k26_j2 (s26_j2 f (mapL m n Q) (stepL n Q) N A.length f.name f.out f.params f.result (A ++ Block.mk (P ++ numL n Q) :: C) ByteArray.empty false [] 0 [])
  | [], P, m, n, h, _, _ => .step fun J => by
    simp only [List.length_nil, Nat.add_zero] at h
    rw [in26s, e26_l2, if_neg (by simp; omega)]
    rfl
  | i :: Q, P, m, n, h, hq, hn => by
    simp only [List.length_cons] at h hn
    refine Goes.trans (Num.one (hq i List.mem_cons_self) (by omega) (by omega) (by omega) hA) ?_
    have e : ∀ x, A ++ Block.mk (P ++ x :: Q) :: C = A ++ Block.mk ((P ++ [x]) ++ Q) :: C := fun x => by simp
    have hs : step1 n i ≤ n + 1 := by unfold step1; split <;> omega
    have := Num.row (A := A) (C := C) (N := N) (M := M) hA hM Q (P ++ [num1 n i]) (map1 m n i) (step1 n i) (by simp; omega) (fun x hx => hq x (List.mem_cons_of_mem _ hx)) (by omega)
    rw [e]
    rw [List.length_append, List.length_singleton] at this
    refine Goes.trans this ?_
    simp only [numL, mapL, stepL, List.append_assoc, List.singleton_append]
    exact .refl
theorem Num.all {N : Nat} (hN : N ≤ 1000) : ∀ (C A : List Ev.Block) (m : List (Value × Int)) (n : Nat), N = A.length + C.length → (∀ b, b ∈ C → okBl b) → n + szT C ≤ 2000000 →
    Goes C26 U26 (R26 f) k26_l0 (st26 f m n N A.length (A ++ C)) k26_j0 (s26_j0 f (mapB m n C) f.name f.out f.params f.result (A ++ numB n C) ByteArray.empty false [] 0 [])
  | [], A, m, n, h, _, _ => .step fun J => by
    simp only [List.length_nil, Nat.add_zero] at h
    rw [st26, e26_l0, if_neg (by simp; omega)]
    rfl
  | b :: C, A, m, n, h, hb, hn => by
    simp only [List.length_cons] at h
    have hs : szT (b :: C) = b.ins.length + szT C := by simp [szT]
    have hl := stepL_le b.ins n
    have hb1 := hb b List.mem_cons_self
    refine Goes.trans (k' := k26_l2) (s' := in26s f m n N A.length b.ins.length ([] : List Ev.Ins).length (A ++ Block.mk ([] ++ b.ins) :: C)) (.step fun J => ?_) (Goes.trans (Num.row (by omega) hb1.1 b.ins [] m n (by simp) hb1.2 (by omega)) ?_)
    · have a1 : A.length < (A ++ b :: C).length := by simp only [List.length_append, List.length_cons]; omega
      rw [st26, e26_l0]
      simp only [Int.toNat_natCast, Nat.zero_add, blk_mid]
      simp (disch := first | omega | assumption | (rw [decide_eq_true_eq]; omega) | (rw [decide_eq_false_iff_not]; omega)) only [↓if_pos, ↓if_neg, if_true, if_false, wrap_up, Int.toNat_natCast, Nat.zero_add]
      rfl
    refine Goes.trans (.step fun J => e26_j2 ..) (Goes.trans (.step fun J => e26_j1 ..) ?_)
    have := Num.all hN C (A ++ [Block.mk (numL n b.ins)]) (mapL m n b.ins) (stepL n b.ins) (by simp; omega) (fun x hx => hb x (List.mem_cons_of_mem _ hx)) (by omega)
    rw [List.length_append, List.length_singleton] at this
    have w1 : IntKind.i64.wrap ((A.length : Int) + 1) = ((A.length + 1 : Nat) : Int) := wrap_nat rfl (by omega)
    rw [w1]
    simp only [List.append_assoc, List.singleton_append, List.nil_append] at this ⊢
    simp only [numB, mapB, stepB]
    exact this
abbrev st8 (f : Ev.Func) (m : List (Value × Int)) (i0 : Ev.Ins) (N A M k L j : Nat) (l : List Ev.Block) : St Ty := s26_l8 f m i0.op i0.type_ i0.to_ i0.sym_ i0.num A k false A k false N A A M k A k L j f.name f.out f.params f.result l ByteArray.empty false [] 0 []
abbrev st6 (f : Ev.Func) (m : List (Value × Int)) (N A M k : Nat) (l : List Ev.Block) : St Ty := s26_l6 f m N A A M k f.name f.out f.params f.result l ByteArray.empty false [] 0 []
abbrev st4 (f : Ev.Func) (m : List (Value × Int)) (N A : Nat) (l : List Ev.Block) : St Ty := s26_l4 f m N A f.name f.out f.params f.result l ByteArray.empty false [] 0 []
def withA (i : Ev.Ins) (l : List Int) : Ev.Ins := ⟨i.op, i.type_, i.to_, i.sym_, i.num, l, i.into⟩
theorem Sub.one {A C : List Ev.Block} {P Q : List Ev.Ins} {i0 i : Ev.Ins} {X Y : List Int} {v : Int} {m : List (Value × Int)} {N M L : Nat} (hp : f.params.length ≤ 1000) (hX : X.length ≤ 1000) (hL : X.length < L) :
    Goes C26 U26 (R26 f) k26_l8 (st8 f m i0 N A.length M P.length L X.length (A ++ Block.mk (P ++ withA i (X ++ v :: Y) :: Q) :: C)) k26_l8 (st8 f m i0 N A.length M P.length L (X.length + 1) (A ++ Block.mk (P ++ withA i (X ++ subV m f.params.length v :: Y) :: Q) :: C)) := by
  have a1 : X.length < (X ++ v :: Y).length := by simp only [List.length_append, List.length_cons]; omega
  have g1 : (X ++ v :: Y).getD X.length 0 = v := by simp [List.getD_eq_getElem?_getD]
  have g2 : ∀ x, (X ++ v :: Y).set X.length x = X ++ x :: Y := fun x => by simp
  refine Goes.trans (k' := k26_j9) (s' := s26_j9 f m i0.op i0.type_ i0.to_ i0.sym_ i0.num A.length P.length false A.length P.length false N A.length A.length M P.length A.length P.length L X.length f.name f.out f.params f.result (A ++ Block.mk (P ++ withA i (X ++ subV m f.params.length v :: Y) :: Q) :: C) ByteArray.empty false [] 0 []) (.step fun J => ?_) (.step fun J => ?_)
  · rw [st8, e26_l8]
    simp only [Int.toNat_natCast, Nat.zero_add, rdI_mid, wrI_mid, blk_mid, withA, g1, g2]
    unfold subV
    by_cases h1 : 1 ≤ v
    · by_cases h2 : v ≤ f.params.length
      · rw [if_pos (show 1 ≤ v ∧ v ≤ f.params.length from ⟨h1, h2⟩)]
        simp (disch := first | omega | assumption | (rw [decide_eq_true_eq]; omega) | (rw [decide_eq_false_iff_not]; omega)) only [↓if_pos, ↓if_neg, if_true, if_false, wrap_up, Int.toNat_natCast, Nat.zero_add]
      · rw [if_neg (show ¬ (1 ≤ v ∧ v ≤ f.params.length) from fun h => h2 h.2)]
        simp (disch := first | omega | assumption | (rw [decide_eq_true_eq]; omega) | (rw [decide_eq_false_iff_not]; omega)) only [↓if_pos, ↓if_neg, if_true, if_false, wrap_up, Int.toNat_natCast, Nat.zero_add]
        rw [← getD_match]
        rfl
    · rw [if_neg (show ¬ (1 ≤ v ∧ v ≤ f.params.length) from fun h => h1 h.1)]
      simp (disch := first | omega | assumption | (rw [decide_eq_true_eq]; omega) | (rw [decide_eq_false_iff_not]; omega)) only [↓if_pos, ↓if_neg, if_true, if_false, wrap_up, Int.toNat_natCast, Nat.zero_add]
      rw [← getD_match]
      rfl
  · rw [e26_j9]
    simp (disch := first | omega | assumption | (rw [decide_eq_true_eq]; omega) | (rw [decide_eq_false_iff_not]; omega)) only [↓if_pos, ↓if_neg, if_true, if_false, wrap_up, Int.toNat_natCast, Nat.zero_add]
    rfl
theorem Sub.args {A C : List Ev.Block} {P Q : List Ev.Ins} {i0 i : Ev.Ins} {m : List (Value × Int)} {N M L : Nat} (hp : f.params.length ≤ 1000) (hL : L ≤ 1000) : ∀ (Y X : List Int), L = X.length + Y.length →
    Goes C26 U26 (R26 f) k26_l8 (st8 f m i0 N A.length M P.length L X.length (A ++ Block.mk (P ++ withA i (X ++ Y) :: Q) :: C)) k26_j8 (s26_j8 f m N A.length A.length M P.length f.name f.out f.params f.result (A ++ Block.mk (P ++ withA i (X ++ Y.map (subV m f.params.length)) :: Q) :: C) ByteArray.empty false [] 0 [])
  | [], X, h => .step fun J => by
    simp only [List.length_nil, Nat.add_zero] at h
    rw [st8, e26_l8, if_neg (by simp; omega)]
    rfl
  | v :: Y, X, h => by
    simp only [List.length_cons] at h
    refine Goes.trans (Sub.one hp (by omega) (by omega)) ?_
    have := Sub.args (A := A) (C := C) (P := P) (Q := Q) (i0 := i0) (i := i) (m := m) (N := N) (M := M) hp hL Y (X ++ [subV m f.params.length v]) (by simp; omega)
    rw [List.length_append, List.length_singleton] at this
    simp only [List.append_assoc, List.singleton_append] at this
    exact this
theorem Sub.row {A C : List Ev.Block} {m : List (Value × Int)} {N M : Nat} (hp : f.params.length ≤ 1000) (hM : M ≤ 1000) : ∀ (Q P : List Ev.Ins), M = P.length + Q.length → (∀ i, i ∈ Q → okIns i) →
    Goes C26 U26 (R26 f) k26_l6 (st6 f m N A.length M P.length (A ++ Block.mk (P ++ Q) :: C)) k26_j6 (s26_j6 f m N A.length f.name f.out f.params f.result (A ++ Block.mk (P ++ Q.map (subI m f.params.length)) :: C) ByteArray.empty false [] 0 [])
  | [], P, h, _ => .step fun J => by
    simp only [List.length_nil, Nat.add_zero] at h
    rw [st6, e26_l6, if_neg (by simp; omega)]
    rfl
  | i :: Q, P, h, hq => by
    simp only [List.length_cons] at h
    have a2 : P.length < (P ++ i :: Q).length := by simp only [List.length_append, List.length_cons]; omega
    have hi := hq i List.mem_cons_self
    refine Goes.trans (k' := k26_l8) (s' := st8 f m i N A.length M P.length i.args.length ([] : List Int).length (A ++ Block.mk (P ++ withA i ([] ++ i.args) :: Q) :: C)) (.step fun J => ?_) (Goes.trans (Sub.args hp hi.1 i.args [] (by simp)) ?_)
    · rw [st6, e26_l6]
      simp only [Int.toNat_natCast, Nat.zero_add, rdI_mid, wrI_mid, blk_mid]
      simp (disch := first | omega | assumption | (rw [decide_eq_true_eq]; omega) | (rw [decide_eq_false_iff_not]; omega)) only [↓if_pos, ↓if_neg, if_true, if_false, wrap_up, Int.toNat_natCast, Nat.zero_add]
      rfl
    refine Goes.trans (.step fun J => e26_j8 ..) (Goes.trans (.step fun J => e26_j7 ..) ?_)
    have := Sub.row (A := A) (C := C) (m := m) (N := N) hp hM Q (P ++ [subI m f.params.length i]) (by simp; omega) (fun x hx => hq x (List.mem_cons_of_mem _ hx))
    have w1 : IntKind.i64.wrap ((P.length : Int) + 1) = ((P.length + 1 : Nat) : Int) := wrap_nat rfl (by omega)
    rw [w1]
    rw [List.length_append, List.length_singleton] at this
    simp only [List.append_assoc, List.singleton_append, List.nil_append, List.map_cons] at this ⊢
    exact this
theorem Sub.all {m : List (Value × Int)} {N : Nat} (hp : f.params.length ≤ 1000) (hN : N ≤ 1000) : ∀ (C A : List Ev.Block), N = A.length + C.length → (∀ b, b ∈ C → okBl b) →
    Goes C26 U26 (R26 f) k26_l4 (st4 f m N A.length (A ++ C)) k26_j4 (s26_j4 f f.name f.out f.params f.result (A ++ C.map (subB m f.params.length)) ByteArray.empty false [] 0 [])
  | [], A, h, _ => .step fun J => by
    simp only [List.length_nil, Nat.add_zero] at h
    rw [st4, e26_l4, if_neg (by simp; omega)]
    rfl
  | b :: C, A, h, hb => by
    simp only [List.length_cons] at h
    have hb1 := hb b List.mem_cons_self
    have a1 : A.length < (A ++ b :: C).length := by simp only [List.length_append, List.length_cons]; omega
    refine Goes.trans (k' := k26_l6) (s' := st6 f m N A.length b.ins.length ([] : List Ev.Ins).length (A ++ Block.mk ([] ++ b.ins) :: C)) (.step fun J => ?_) (Goes.trans (Sub.row hp hb1.1 b.ins [] (by simp) hb1.2) ?_)
    · rw [st4, e26_l4]
      simp only [Int.toNat_natCast, Nat.zero_add, blk_mid]
      simp (disch := first | omega | assumption | (rw [decide_eq_true_eq]; omega) | (rw [decide_eq_false_iff_not]; omega)) only [↓if_pos, ↓if_neg, if_true, if_false, wrap_up, Int.toNat_natCast, Nat.zero_add]
      rfl
    refine Goes.trans (.step fun J => e26_j6 ..) (Goes.trans (.step fun J => e26_j5 ..) ?_)
    have := Sub.all (m := m) hp hN C (A ++ [subB m f.params.length b]) (by simp; omega) (fun x hx => hb x (List.mem_cons_of_mem _ hx))
    have w1 : IntKind.i64.wrap ((A.length : Int) + 1) = ((A.length + 1 : Nat) : Int) := wrap_nat rfl (by omega)
    rw [w1]
    rw [List.length_append, List.length_singleton] at this
    simp only [List.append_assoc, List.singleton_append, List.nil_append, List.map_cons] at this ⊢
    exact this
end
theorem riseL (i : Ev.Ins) : (risI i).args.length = i.args.length ∧ (risI i).into.length = i.into.length := by
  unfold risI
  split
  · exact riseF_len _ _
  · exact ⟨rfl, rfl⟩
theorem numL_ok : ∀ (l : List Ev.Ins) (n : Nat), (∀ i, i ∈ l → okIns i) → (numL n l).length = l.length ∧ ∀ i, i ∈ numL n l → okIns i
  | [], n, h => ⟨rfl, fun i hi => by cases hi⟩
  | x :: l, n, h => by
    obtain ⟨h1, h2⟩ := numL_ok l (step1 n x) fun i hi => h i (List.mem_cons_of_mem _ hi)
    refine ⟨by simp [numL, h1], fun i hi => ?_⟩
    rcases List.mem_cons.1 hi with rfl | hi
    · have := h x List.mem_cons_self
      have h3 := riseL x
      unfold okIns at this ⊢
      show (risI x).args.length ≤ 1000 ∧ (risI x).into.length ≤ 1000
      omega
    · exact h2 i hi
theorem numB_ok : ∀ (l : List Ev.Block) (n : Nat), (∀ b, b ∈ l → okBl b) → (numB n l).length = l.length ∧ ∀ b, b ∈ numB n l → okBl b
  | [], n, h => ⟨rfl, fun i hi => by cases hi⟩
  | x :: l, n, h => by
    obtain ⟨h1, h2⟩ := numB_ok l (stepL n x.ins) fun i hi => h i (List.mem_cons_of_mem _ hi)
    refine ⟨by simp [numB, h1], fun i hi => ?_⟩
    have h0 := h x List.mem_cons_self
    rcases List.mem_cons.1 hi with rfl | hi
    · obtain ⟨h3, h4⟩ := numL_ok x.ins n h0.2
      exact ⟨by show (numL n x.ins).length ≤ 1000; have := h0.1; omega, h4⟩
    · exact h2 i hi
theorem neat_ok (f : Ev.Func) (h : okF f) : CallOk tb Try.prog 26 (a26 f) (.agg [.v (.string (neatF f).name), .v (.bool (neatF f).out), .sl true 3 (neatF f).params, .v (.int .i64 (neatF f).result), .sl true 44 (neatF f).blocks]) [.dead] := by
  have hb := h.2.1
  have hp := h.1
  have hs := h.sz
  obtain ⟨l1, l2⟩ := numB_ok f.blocks f.params.length h.2.2
  refine fn26 f (Goes.ends (k' := k26_l0) (s' := st26 f [] f.params.length f.blocks.length ([] : List Ev.Block).length ([] ++ f.blocks)) (.step fun J => ?_) ?_)
  · rw [e26, if_pos (show okF ⟨f.name, f.out, f.params, f.result, f.blocks⟩ from h)]
    rfl
  refine Goes.ends (Num.all hb f.blocks [] [] f.params.length (by simp) h.2.2 (by omega)) ?_
  refine Goes.ends (k' := k26_l4) (s' := st4 f (mapB [] f.params.length f.blocks) f.blocks.length ([] : List Ev.Block).length ([] ++ numB f.params.length f.blocks)) (.step fun J => ?_) (Goes.ends (Sub.all hp hb (numB f.params.length f.blocks) [] (by simp [l1]) l2) (.step fun J => ?_))
  · rw [e26_j0]
    simp only [List.nil_append, l1]
    rfl
  · rw [e26_j4]
    rfl
def S26 : List (AV Ty) → T (AV Ty × List (AV Ty))
  | [.agg x] => match cod33.dec false x with
    | some f => .ite (okF f) (okF.dec f) (.ret (.agg [.v (.string f.name), .v (.bool f.out), .sl true 3 f.params, .v (.int .i64 f.result), .sl true 44 (neatB f.params.length f.blocks)], [.dead])) .fail
    | none => .fail
  | _ => .fail
theorem S26_ok (l : List (AV Ty)) (r : AV Ty) (outs : List (AV Ty)) (h : (S26 l).val = some (r, outs)) : CallOk tb Try.prog 26 l r outs := by
  unfold S26 at h
  split at h
  · rename_i x
    split at h
    · rename_i f e1
      rcases ite_val h with ⟨e, h⟩ | ⟨_, h⟩
      · cases h
        have h1 := cod33_ok.dec false x f e1
        subst h1
        exact neat_ok f e
      · cases h
    · cases h
  · cases h
end Go.Proofs.Ytggibjbcbicpjaa.Ev
