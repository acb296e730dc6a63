/- plnref3.Copy, ir.Copy: what they come to. -/
import Derived.Test.YtggibjbcbicpjaaIrN
import Derived.Test.YtggibjbcbicpjaaIrH
namespace Go.Proofs.Ytggibjbcbicpjaa.Ev
open Go
set_option linter.unusedVariables false
set_option linter.unusedSimpArgs false
def okM (m : Ev.Module) : Prop := (m.externs.length ≤ 1000 ∧ m.globals.length ≤ 1000 ∧ m.tables.length ≤ 1000 ∧ m.funcs.length ≤ 1000) ∧ (∀ x, x ∈ m.externs → x.params.length ≤ 1000) ∧ (∀ x, x ∈ m.globals → x.cells.length ≤ 1000) ∧ (∀ x, x ∈ m.tables → x.funcs.length ≤ 1000) ∧ ∀ f, f ∈ m.funcs → okF f
instance okM.dec (m : Ev.Module) : Decidable (okM m) := by unfold okM; infer_instance
theorem smallM.ok {m : Ev.Module} (h : smallM m) : okM m := by
  obtain ⟨⟨h1, h2, h3, h4⟩, h5, h6, h7, h8, _⟩ := h
  exact ⟨⟨by omega, by omega, by omega, by omega⟩, fun x hx => by have := (h5 x hx).2; omega, fun x hx => by have := (h6 x hx).2; omega, fun x hx => by have := (h7 x hx).2; omega, fun f hf => (h8 f hf).ok⟩
noncomputable def b34 : Code := bodyOf Try.f34
noncomputable def C34 : Cfg Ty := ⟨fun
  | 32 => some ([], S32)
  | _ => none, fun
  | 2 => true
  | 3 => true
  | 27 => true
  | 31 => true
  | 32 => true
  | 55 => true
  | 57 => true
  | 58 => true
  | 81 => true
  | 83 => true
  | 84 => true
  | 101 => true
  | 102 => true
  | 400104 => true
  | _ => false, 105, 0⟩
def U34 : Cuts := ⟨fun
  | 0 => some [(1, none), (2, none), (3, none)]
  | 2 => some [(1, none), (2, none), (3, none)]
  | 4 => some [(1, none), (2, none), (3, none)]
  | 6 => some [(2, none), (3, none)]
  | _ => none, fun
  | 0 => some [(1, none), (2, none), (3, none), (4, none)]
  | 2 => some [(1, none), (2, none), (3, none), (6, none)]
  | 4 => some [(1, none), (2, none), (3, none), (7, none)]
  | 6 => some [(1, none), (2, none), (3, none), (8, none)]
  | _ => none, fun
  | 6 => some [0, 1, 2, 3, 4, 5, 7, 8, 6, 9, 10, 11, 12, 13]
  | 10 => some [0, 1, 2, 3, 4, 5, 6, 7, 8, 9, 10, 11, 12, 13, 14, 15, 16, 17, 18, 19]
  | 14 => some [0, 1, 2, 3, 4, 5, 6, 7, 8, 9, 10, 11, 12, 13, 14, 15, 16, 17, 18, 19]
  | 18 => some [0, 1, 2, 3, 4, 5, 6, 7, 8, 9, 10, 11]
  | _ => none⟩
noncomputable def k34_j0 : List Item := [.code (sndC (sndC (sndC b34)))]
noncomputable def k34_l0 : List Item := [.code (inC (inC (sndC (fstC (sndC (sndC b34)))))), .inLoop (inC (inC (sndC (fstC (sndC (sndC b34)))))), .inBlock 0, .code (sndC (sndC (sndC b34)))]
noncomputable def k34_j2 : List Item := [.code (sndC (sndC (sndC (sndC b34))))]
noncomputable def k34_l2 : List Item := [.code (inC (inC (sndC (fstC (sndC (sndC (sndC b34))))))), .inLoop (inC (inC (sndC (fstC (sndC (sndC (sndC b34))))))), .inBlock 2, .code (sndC (sndC (sndC (sndC b34))))]
noncomputable def k34_j4 : List Item := [.code (sndC (sndC (sndC (sndC (sndC b34)))))]
noncomputable def k34_l4 : List Item := [.code (inC (inC (sndC (fstC (sndC (sndC (sndC (sndC b34)))))))), .inLoop (inC (inC (sndC (fstC (sndC (sndC (sndC (sndC b34)))))))), .inBlock 4, .code (sndC (sndC (sndC (sndC (sndC b34)))))]
noncomputable def k34_j6 : List Item := [.code (sndC (sndC (sndC (sndC (sndC (sndC b34))))))]
noncomputable def k34_l6 : List Item := [.code (inC (inC (sndC (fstC (sndC (sndC (sndC (sndC (sndC b34))))))))), .inLoop (inC (inC (sndC (fstC (sndC (sndC (sndC (sndC (sndC b34))))))))), .inBlock 6, .code (sndC (sndC (sndC (sndC (sndC (sndC b34))))))]
def a34 (m : Module) : List (AV Ty) := [.agg [.sl false (91 : Nat) m.externs, .sl false (94 : Nat) m.globals, .sl false (96 : Nat) m.tables, .sl false (33 : Nat) m.funcs]]
noncomputable def R34 (m : Module) : St Ty → EvR := resT tb C34 Try.f34.results.toList .keep (a34 m)
def s34_l0 (m : Module) (v4 : Int) (h0 : List Module) (h1 : List Extern) (h1_1 : List Global) (h1_2 : List Table) (h1_3 : List Func) (h2 : List Extern) (h2_1 : List Global) (h2_2 : List Table) (h2_3 : List Func) : St Ty := St.mk [(1, .ptr (0) [] (0) (0)), (2, .ptr (1) [] (0) (0)), (3, .ptr (2) [] (0) (0)), (4, .v (.int .i64 v4))] [some (Root.mk (27) false h0), some (Root.mk (27) true [Module.mk h1 h1_1 h1_2 h1_3]), some (Root.mk (27) true [Module.mk h2 h2_1 h2_2 h2_3])]
def s34_j0 (m : Module) (h0 : List Module) (h1 : List Extern) (h1_1 : List Global) (h1_2 : List Table) (h1_3 : List Func) (h2 : List Extern) (h2_1 : List Global) (h2_2 : List Table) (h2_3 : List Func) : St Ty := St.mk [(1, .ptr (0) [] (0) (0)), (2, .ptr (1) [] (0) (0)), (3, .ptr (2) [] (0) (0))] [some (Root.mk (27) false h0), some (Root.mk (27) true [Module.mk h1 h1_1 h1_2 h1_3]), some (Root.mk (27) true [Module.mk h2 h2_1 h2_2 h2_3])]
def s34_l2 (m : Module) (v6 : Int) (h0 : List Module) (h1 : List Extern) (h1_1 : List Global) (h1_2 : List Table) (h1_3 : List Func) (h2 : List Extern) (h2_1 : List Global) (h2_2 : List Table) (h2_3 : List Func) : St Ty := St.mk [(1, .ptr (0) [] (0) (0)), (2, .ptr (1) [] (0) (0)), (3, .ptr (2) [] (0) (0)), (6, .v (.int .i64 v6))] [some (Root.mk (27) false h0), some (Root.mk (27) true [Module.mk h1 h1_1 h1_2 h1_3]), some (Root.mk (27) true [Module.mk h2 h2_1 h2_2 h2_3])]
def s34_j2 (m : Module) (h0 : List Module) (h1 : List Extern) (h1_1 : List Global) (h1_2 : List Table) (h1_3 : List Func) (h2 : List Extern) (h2_1 : List Global) (h2_2 : List Table) (h2_3 : List Func) : St Ty := St.mk [(1, .ptr (0) [] (0) (0)), (2, .ptr (1) [] (0) (0)), (3, .ptr (2) [] (0) (0))] [some (Root.mk (27) false h0), some (Root.mk (27) true [Module.mk h1 h1_1 h1_2 h1_3]), some (Root.mk (27) true [Module.mk h2 h2_1 h2_2 h2_3])]
def s34_l4 (m : Module) (v7 : Int) (h0 : List Module) (h1 : List Extern) (h1_1 : List Global) (h1_2 : List Table) (h1_3 : List Func) (h2 : List Extern) (h2_1 : List Global) (h2_2 : List Table) (h2_3 : List Func) : St Ty := St.mk [(1, .ptr (0) [] (0) (0)), (2, .ptr (1) [] (0) (0)), (3, .ptr (2) [] (0) (0)), (7, .v (.int .i64 v7))] [some (Root.mk (27) false h0), some (Root.mk (27) true [Module.mk h1 h1_1 h1_2 h1_3]), some (Root.mk (27) true [Module.mk h2 h2_1 h2_2 h2_3])]
def s34_j4 (m : Module) (h0 : List Module) (h1 : List Extern) (h1_1 : List Global) (h1_2 : List Table) (h1_3 : List Func) (h2 : List Extern) (h2_1 : List Global) (h2_2 : List Table) (h2_3 : List Func) : St Ty := St.mk [(1, .ptr (0) [] (0) (0)), (2, .ptr (1) [] (0) (0)), (3, .ptr (2) [] (0) (0))] [some (Root.mk (27) false h0), some (Root.mk (27) true [Module.mk h1 h1_1 h1_2 h1_3]), some (Root.mk (27) true [Module.mk h2 h2_1 h2_2 h2_3])]
def s34_l6 (m : Module) (v8 : Int) (h0 : List Module) (h1 : List Extern) (h1_1 : List Global) (h1_2 : List Table) (h1_3 : List Func) (h2 : List Extern) (h2_1 : List Global) (h2_2 : List Table) (h2_3 : List Func) : St Ty := St.mk [(1, .ptr (0) [] (0) (0)), (2, .ptr (1) [] (0) (0)), (3, .ptr (2) [] (0) (0)), (8, .v (.int .i64 v8))] [some (Root.mk (27) false h0), some (Root.mk (27) true [Module.mk h1 h1_1 h1_2 h1_3]), some (Root.mk (27) true [Module.mk h2 h2_1 h2_2 h2_3])]
def s34_j6 (m : Module) (h0 : List Extern) (h0_1 : List Global) (h0_2 : List Table) (h0_3 : List Func) (h1 : List Extern) (h1_1 : List Global) (h1_2 : List Table) (h1_3 : List Func) : St Ty := St.mk [(2, .ptr (0) [] (0) (0)), (3, .ptr (1) [] (0) (0))] [some (Root.mk (27) true [Module.mk h0 h0_1 h0_2 h0_3]), some (Root.mk (27) true [Module.mk h1 h1_1 h1_2 h1_3])]
theorem e34 (J m) : run tb C34 U34 J (R34 m) 4096 [.code b34] ⟨slotsA (a34 m) 0 0, heapA (a34 m)⟩ =
 J k34_l0 (s34_l0 m 0 ([Module.mk m.externs m.globals m.tables m.funcs]) ([]) ([]) ([]) ([]) ([]) ([]) ([]) ([])) := by kernel_rfl
theorem e34_l0 (J m v4 h0 h1 h1_1 h1_2 h1_3 h2 h2_1 h2_2 h2_3) : run tb C34 U34 J (R34 m) 4096 k34_l0 (s34_l0 m v4 h0 h1 h1_1 h1_2 h1_3 h2 h2_1 h2_2 h2_3) =
 if decide (v4 < (↑(h0.getD (0) (Module.mk [] [] [] [])).externs.length : Int)) = true then
 if 0 ≤ v4 then
 if v4 < (↑(h0.getD (0) (Module.mk [] [] [] [])).externs.length : Int) then
 if ((h0.getD (0) (Module.mk [] [] [] [])).externs.getD v4.toNat (Extern.mk ByteArray.empty [] 0)).params.length + 1 ≤ 549755813888 ∧ (((h0.getD (0) (Module.mk [] [] [] [])).externs.getD v4.toNat (Extern.mk ByteArray.empty [] 0)).params.length + 1) * 8 ≤ 549755813888 then
 if h2.length + [Extern.mk ((h0.getD (0) (Module.mk [] [] [] [])).externs.getD v4.toNat (Extern.mk ByteArray.empty [] 0)).name ((h0.getD (0) (Module.mk [] [] [] [])).externs.getD v4.toNat (Extern.mk ByteArray.empty [] 0)).params ((h0.getD (0) (Module.mk [] [] [] [])).externs.getD v4.toNat (Extern.mk ByteArray.empty [] 0)).result].length + 1 ≤ 549755813888 ∧ (h2.length + [Extern.mk ((h0.getD (0) (Module.mk [] [] [] [])).externs.getD v4.toNat (Extern.mk ByteArray.empty [] 0)).name ((h0.getD (0) (Module.mk [] [] [] [])).externs.getD v4.toNat (Extern.mk ByteArray.empty [] 0)).params ((h0.getD (0) (Module.mk [] [] [] [])).externs.getD v4.toNat (Extern.mk ByteArray.empty [] 0)).result].length + 1) * 48 ≤ 549755813888 then
 J k34_l0 (s34_l0 m (IntKind.i64.wrap (v4 + 1)) h0 h1 h1_1 h1_2 h1_3 (h2 ++ [Extern.mk ((h0.getD (0) (Module.mk [] [] [] [])).externs.getD v4.toNat (Extern.mk ByteArray.empty [] 0)).name ((h0.getD (0) (Module.mk [] [] [] [])).externs.getD v4.toNat (Extern.mk ByteArray.empty [] 0)).params ((h0.getD (0) (Module.mk [] [] [] [])).externs.getD v4.toNat (Extern.mk ByteArray.empty [] 0)).result]) h2_1 h2_2 h2_3)
 else none
 else none
 else none
 else none
 else
 J k34_j0 (s34_j0 m h0 h1 h1_1 h1_2 h1_3 h2 h2_1 h2_2 h2_3) := by kernel_rfl
theorem e34_j0 (J m h0 h1 h1_1 h1_2 h1_3 h2 h2_1 h2_2 h2_3) : run tb C34 U34 J (R34 m) 4096 k34_j0 (s34_j0 m h0 h1 h1_1 h1_2 h1_3 h2 h2_1 h2_2 h2_3) =
 J k34_l2 (s34_l2 m 0 h0 h1 h1_1 h1_2 h1_3 h2 h2_1 h2_2 h2_3) := by kernel_rfl
theorem e34_l2 (J m v6 h0 h1 h1_1 h1_2 h1_3 h2 h2_1 h2_2 h2_3) : run tb C34 U34 J (R34 m) 4096 k34_l2 (s34_l2 m v6 h0 h1 h1_1 h1_2 h1_3 h2 h2_1 h2_2 h2_3) =
 if decide (v6 < (↑(h0.getD (0) (Module.mk [] [] [] [])).globals.length : Int)) = true then
 if 0 ≤ v6 then
 if v6 < (↑(h0.getD (0) (Module.mk [] [] [] [])).globals.length : Int) then
 if 0 ≤ v6 then
 if v6 < (↑(h0.getD (0) (Module.mk [] [] [] [])).globals.length : Int) then
 if ((h0.getD (0) (Module.mk [] [] [] [])).globals.getD v6.toNat (Global.mk ByteArray.empty [])).cells.length + 1 ≤ 549755813888 ∧ (((h0.getD (0) (Module.mk [] [] [] [])).globals.getD v6.toNat (Global.mk ByteArray.empty [])).cells.length + 1) * 8 ≤ 549755813888 then
 if h2_1.length + [Global.mk ((h0.getD (0) (Module.mk [] [] [] [])).globals.getD v6.toNat (Global.mk ByteArray.empty [])).name ((h0.getD (0) (Module.mk [] [] [] [])).globals.getD v6.toNat (Global.mk ByteArray.empty [])).cells].length + 1 ≤ 549755813888 ∧ (h2_1.length + [Global.mk ((h0.getD (0) (Module.mk [] [] [] [])).globals.getD v6.toNat (Global.mk ByteArray.empty [])).name ((h0.getD (0) (Module.mk [] [] [] [])).globals.getD v6.toNat (Global.mk ByteArray.empty [])).cells].length + 1) * 40 ≤ 549755813888 then
 J k34_l2 (s34_l2 m (IntKind.i64.wrap (v6 + 1)) h0 h1 h1_1 h1_2 h1_3 h2 (h2_1 ++ [Global.mk ((h0.getD (0) (Module.mk [] [] [] [])).globals.getD v6.toNat (Global.mk ByteArray.empty [])).name ((h0.getD (0) (Module.mk [] [] [] [])).globals.getD v6.toNat (Global.mk ByteArray.empty [])).cells]) h2_2 h2_3)
 else none
 else none
 else none
 else none
 else none
 else none
 else
 J k34_j2 (s34_j2 m h0 h1 h1_1 h1_2 h1_3 h2 h2_1 h2_2 h2_3) := by kernel_rfl
theorem e34_j2 (J m h0 h1 h1_1 h1_2 h1_3 h2 h2_1 h2_2 h2_3) : run tb C34 U34 J (R34 m) 4096 k34_j2 (s34_j2 m h0 h1 h1_1 h1_2 h1_3 h2 h2_1 h2_2 h2_3) =
 J k34_l4 (s34_l4 m 0 h0 h1 h1_1 h1_2 h1_3 h2 h2_1 h2_2 h2_3) := by kernel_rfl
theorem e34_l4 (J m v7 h0 h1 h1_1 h1_2 h1_3 h2 h2_1 h2_2 h2_3) : run tb C34 U34 J (R34 m) 4096 k34_l4 (s34_l4 m v7 h0 h1 h1_1 h1_2 h1_3 h2 h2_1 h2_2 h2_3) =
 if decide (v7 < (↑(h0.getD (0) (Module.mk [] [] [] [])).tables.length : Int)) = true then
 if 0 ≤ v7 then
 if v7 < (↑(h0.getD (0) (Module.mk [] [] [] [])).tables.length : Int) then
 if 0 ≤ v7 then
 if v7 < (↑(h0.getD (0) (Module.mk [] [] [] [])).tables.length : Int) then
 if ((h0.getD (0) (Module.mk [] [] [] [])).tables.getD v7.toNat (Table.mk ByteArray.empty [])).funcs.length + 1 ≤ 549755813888 ∧ (((h0.getD (0) (Module.mk [] [] [] [])).tables.getD v7.toNat (Table.mk ByteArray.empty [])).funcs.length + 1) * 8 ≤ 549755813888 then
 if h2_2.length + [Table.mk ((h0.getD (0) (Module.mk [] [] [] [])).tables.getD v7.toNat (Table.mk ByteArray.empty [])).name ((h0.getD (0) (Module.mk [] [] [] [])).tables.getD v7.toNat (Table.mk ByteArray.empty [])).funcs].length + 1 ≤ 549755813888 ∧ (h2_2.length + [Table.mk ((h0.getD (0) (Module.mk [] [] [] [])).tables.getD v7.toNat (Table.mk ByteArray.empty [])).name ((h0.getD (0) (Module.mk [] [] [] [])).tables.getD v7.toNat (Table.mk ByteArray.empty [])).funcs].length + 1) * 40 ≤ 549755813888 then
 J k34_l4 (s34_l4 m (IntKind.i64.wrap (v7 + 1)) h0 h1 h1_1 h1_2 h1_3 h2 h2_1 (h2_2 ++ [Table.mk ((h0.getD (0) (Module.mk [] [] [] [])).tables.getD v7.toNat (Table.mk ByteArray.empty [])).name ((h0.getD (0) (Module.mk [] [] [] [])).tables.getD v7.toNat (Table.mk ByteArray.empty [])).funcs]) h2_3)
 else none
 else none
 else none
 else none
 else none
 else none
 else
 J k34_j4 (s34_j4 m h0 h1 h1_1 h1_2 h1_3 h2 h2_1 h2_2 h2_3) := by kernel_rfl
theorem e34_j4 (J m h0 h1 h1_1 h1_2 h1_3 h2 h2_1 h2_2 h2_3) : run tb C34 U34 J (R34 m) 4096 k34_j4 (s34_j4 m h0 h1 h1_1 h1_2 h1_3 h2 h2_1 h2_2 h2_3) =
 J k34_l6 (s34_l6 m 0 h0 h1 h1_1 h1_2 h1_3 h2 h2_1 h2_2 h2_3) := by kernel_rfl
theorem e34_l6 (J m v8 h0 h1 h1_1 h1_2 h1_3 h2 h2_1 h2_2 h2_3) : run tb C34 U34 J (R34 m) 4096 k34_l6 (s34_l6 m v8 h0 h1 h1_1 h1_2 h1_3 h2 h2_1 h2_2 h2_3) =
 if decide (v8 < (↑(h0.getD (0) (Module.mk [] [] [] [])).funcs.length : Int)) = true then
 if 0 ≤ v8 then
 if v8 < (↑(h0.getD (0) (Module.mk [] [] [] [])).funcs.length : Int) then
 if okF (Func.mk ((h0.getD (0) (Module.mk [] [] [] [])).funcs.getD v8.toNat (Func.mk ByteArray.empty false [] 0 [])).name ((h0.getD (0) (Module.mk [] [] [] [])).funcs.getD v8.toNat (Func.mk ByteArray.empty false [] 0 [])).out ((h0.getD (0) (Module.mk [] [] [] [])).funcs.getD v8.toNat (Func.mk ByteArray.empty false [] 0 [])).params ((h0.getD (0) (Module.mk [] [] [] [])).funcs.getD v8.toNat (Func.mk ByteArray.empty false [] 0 [])).result ((h0.getD (0) (Module.mk [] [] [] [])).funcs.getD v8.toNat (Func.mk ByteArray.empty false [] 0 [])).blocks) then
 if h2_3.length + [Func.mk ((h0.getD (0) (Module.mk [] [] [] [])).funcs.getD v8.toNat (Func.mk ByteArray.empty false [] 0 [])).name ((h0.getD (0) (Module.mk [] [] [] [])).funcs.getD v8.toNat (Func.mk ByteArray.empty false [] 0 [])).out ((h0.getD (0) (Module.mk [] [] [] [])).funcs.getD v8.toNat (Func.mk ByteArray.empty false [] 0 [])).params ((h0.getD (0) (Module.mk [] [] [] [])).funcs.getD v8.toNat (Func.mk ByteArray.empty false [] 0 [])).result ((h0.getD (0) (Module.mk [] [] [] [])).funcs.getD v8.toNat (Func.mk ByteArray.empty false [] 0 [])).blocks].length + 1 ≤ 549755813888 ∧ (h2_3.length + [Func.mk ((h0.getD (0) (Module.mk [] [] [] [])).funcs.getD v8.toNat (Func.mk ByteArray.empty false [] 0 [])).name ((h0.getD (0) (Module.mk [] [] [] [])).funcs.getD v8.toNat (Func.mk ByteArray.empty false [] 0 [])).out ((h0.getD (0) (Module.mk [] [] [] [])).funcs.getD v8.toNat (Func.mk ByteArray.empty false [] 0 [])).params ((h0.getD (0) (Module.mk [] [] [] [])).funcs.getD v8.toNat (Func.mk ByteArray.empty false [] 0 [])).result ((h0.getD (0) (Module.mk [] [] [] [])).funcs.getD v8.toNat (Func.mk ByteArray.empty false [] 0 [])).blocks].length + 1) * 80 ≤ 549755813888 then
 J k34_l6 (s34_l6 m (IntKind.i64.wrap (v8 + 1)) h0 h1 h1_1 h1_2 h1_3 h2 h2_1 h2_2 (h2_3 ++ [Func.mk ((h0.getD (0) (Module.mk [] [] [] [])).funcs.getD v8.toNat (Func.mk ByteArray.empty false [] 0 [])).name ((h0.getD (0) (Module.mk [] [] [] [])).funcs.getD v8.toNat (Func.mk ByteArray.empty false [] 0 [])).out ((h0.getD (0) (Module.mk [] [] [] [])).funcs.getD v8.toNat (Func.mk ByteArray.empty false [] 0 [])).params ((h0.getD (0) (Module.mk [] [] [] [])).funcs.getD v8.toNat (Func.mk ByteArray.empty false [] 0 [])).result ((h0.getD (0) (Module.mk [] [] [] [])).funcs.getD v8.toNat (Func.mk ByteArray.empty false [] 0 [])).blocks]))
 else none
 else none
 else none
 else none
 else
 J k34_j6 (s34_j6 m h1 h1_1 h1_2 h1_3 h2 h2_1 h2_2 h2_3) := by kernel_rfl
theorem e34_j6 (J m h0 h0_1 h0_2 h0_3 h1 h1_1 h1_2 h1_3) : run tb C34 U34 J (R34 m) 4096 k34_j6 (s34_j6 m h0 h0_1 h0_2 h0_3 h1 h1_1 h1_2 h1_3) =
 some (.agg [.sl true 91 h1, .sl true 94 h1_1, .sl true 96 h1_2, .sl true 33 h1_3], [.dead]) := by kernel_rfl

theorem in34 : Entered 34 := ⟨Try.f34, b34, by kernel_rfl, by kernel_rfl, by kernel_rfl⟩
theorem fn34 (m : Ev.Module) {res : AV Ty} {outs : List (AV Ty)} (h : Ends C34 U34 (R34 m) [.code b34] ⟨slotsA (a34 m) 0 0, heapA (a34 m)⟩ (some (res, outs))) : CallOk tb Try.prog 34 (a34 m) res outs := by
  obtain ⟨n0, hn⟩ := h
  exact fn_ok (C := C34) (U := U34) (n := 0 + n0) (q := .keep) tbOk good (fun f mu S h => by
    unfold C34 at h
    simp only at h
    split at h
    · cases h; exact ⟨in32, S32_ok⟩
    · cases h) mixed (fn := Try.f34) (body := b34) (by kernel_rfl) (by kernel_rfl) rfl rfl (by show 1 ≤ 105; omega) (hn 0)
section
variable {m : Ev.Module}
theorem RefCopy.l0 (h : okM m) {i : Nat} (hi : i < m.externs.length) : Goes C34 U34 (R34 m) k34_l0 (s34_l0 m i [m] [] [] [] [] (m.externs.take i) [] [] []) k34_l0 (s34_l0 m (i + 1 : Nat) [m] [] [] [] [] (m.externs.take (i + 1 : Nat)) [] [] []) := .step fun J => by
  have e : Extern.mk (m.externs.getD i (Extern.mk ByteArray.empty [] 0)).name (m.externs.getD i (Extern.mk ByteArray.empty [] 0)).params (m.externs.getD i (Extern.mk ByteArray.empty [] 0)).result = m.externs.getD i (Extern.mk ByteArray.empty [] 0) := rfl
  obtain ⟨⟨a1, a2, a3, a4⟩, h1, h2, h3, h4⟩ := h
  have h5 : (m.externs.take i).length ≤ 1000 := by rw [List.length_take]; omega
  have h6 := h1 _ (getD_mem (d := (Extern.mk ByteArray.empty [] 0)) hi)
  rw [e34_l0, take_step (d := (Extern.mk ByteArray.empty [] 0)) hi]
  simp only [Int.toNat_natCast, List.getD_cons_zero]
  rw [e]
  simp (disch := first | omega | assumption | (rw [decide_eq_true_eq]; omega) | (rw [decide_eq_false_iff_not]; omega)) only [↓if_pos, ↓if_neg, if_true, if_false, wrap_up, Int.toNat_natCast, Nat.zero_add, List.length_singleton]
  rfl
theorem RefCopy.l2 (h : okM m) {i : Nat} (hi : i < m.globals.length) : Goes C34 U34 (R34 m) k34_l2 (s34_l2 m i [m] [] [] [] [] m.externs (m.globals.take i) [] []) k34_l2 (s34_l2 m (i + 1 : Nat) [m] [] [] [] [] m.externs (m.globals.take (i + 1 : Nat)) [] []) := .step fun J => by
  have e : Global.mk (m.globals.getD i (Global.mk ByteArray.empty [])).name (m.globals.getD i (Global.mk ByteArray.empty [])).cells = m.globals.getD i (Global.mk ByteArray.empty []) := rfl
  obtain ⟨⟨a1, a2, a3, a4⟩, h1, h2, h3, h4⟩ := h
  have h5 : (m.globals.take i).length ≤ 1000 := by rw [List.length_take]; omega
  have h6 := h2 _ (getD_mem (d := (Global.mk ByteArray.empty [])) hi)
  rw [e34_l2, take_step (d := (Global.mk ByteArray.empty [])) hi]
  simp only [Int.toNat_natCast, List.getD_cons_zero]
  rw [e]
  simp (disch := first | omega | assumption | (rw [decide_eq_true_eq]; omega) | (rw [decide_eq_false_iff_not]; omega)) only [↓if_pos, ↓if_neg, if_true, if_false, wrap_up, Int.toNat_natCast, Nat.zero_add, List.length_singleton]
  rfl
theorem RefCopy.l4 (h : okM m) {i : Nat} (hi : i < m.tables.length) : Goes C34 U34 (R34 m) k34_l4 (s34_l4 m i [m] [] [] [] [] m.externs m.globals (m.tables.take i) []) k34_l4 (s34_l4 m (i + 1 : Nat) [m] [] [] [] [] m.externs m.globals (m.tables.take (i + 1 : Nat)) []) := .step fun J => by
  have e : Table.mk (m.tables.getD i (Table.mk ByteArray.empty [])).name (m.tables.getD i (Table.mk ByteArray.empty [])).funcs = m.tables.getD i (Table.mk ByteArray.empty []) := rfl
  obtain ⟨⟨a1, a2, a3, a4⟩, h1, h2, h3, h4⟩ := h
  have h5 : (m.tables.take i).length ≤ 1000 := by rw [List.length_take]; omega
  have h6 := h3 _ (getD_mem (d := (Table.mk ByteArray.empty [])) hi)
  rw [e34_l4, take_step (d := (Table.mk ByteArray.empty [])) hi]
  simp only [Int.toNat_natCast, List.getD_cons_zero]
  rw [e]
  simp (disch := first | omega | assumption | (rw [decide_eq_true_eq]; omega) | (rw [decide_eq_false_iff_not]; omega)) only [↓if_pos, ↓if_neg, if_true, if_false, wrap_up, Int.toNat_natCast, Nat.zero_add, List.length_singleton]
  rfl
theorem RefCopy.l6 (h : okM m) {i : Nat} (hi : i < m.funcs.length) : Goes C34 U34 (R34 m) k34_l6 (s34_l6 m i [m] [] [] [] [] m.externs m.globals m.tables (m.funcs.take i)) k34_l6 (s34_l6 m (i + 1 : Nat) [m] [] [] [] [] m.externs m.globals m.tables (m.funcs.take (i + 1 : Nat))) := .step fun J => by
  have e : Func.mk (m.funcs.getD i (Func.mk ByteArray.empty false [] 0 [])).name (m.funcs.getD i (Func.mk ByteArray.empty false [] 0 [])).out (m.funcs.getD i (Func.mk ByteArray.empty false [] 0 [])).params (m.funcs.getD i (Func.mk ByteArray.empty false [] 0 [])).result (m.funcs.getD i (Func.mk ByteArray.empty false [] 0 [])).blocks = m.funcs.getD i (Func.mk ByteArray.empty false [] 0 []) := rfl
  obtain ⟨⟨a1, a2, a3, a4⟩, h1, h2, h3, h4⟩ := h
  have h5 : (m.funcs.take i).length ≤ 1000 := by rw [List.length_take]; omega
  have h6 := h4 _ (getD_mem (d := (Func.mk ByteArray.empty false [] 0 [])) hi)
  rw [e34_l6, take_step (d := (Func.mk ByteArray.empty false [] 0 [])) hi]
  simp only [Int.toNat_natCast, List.getD_cons_zero]
  rw [e]
  simp (disch := first | omega | assumption | (rw [decide_eq_true_eq]; omega) | (rw [decide_eq_false_iff_not]; omega)) only [↓if_pos, ↓if_neg, if_true, if_false, wrap_up, Int.toNat_natCast, Nat.zero_add, List.length_singleton]
  rfl
end
theorem refCopy_ok (m : Ev.Module) (h : okM m) : CallOk tb Try.prog 34 (a34 m) (.agg [.sl true 91 m.externs, .sl true 94 m.globals, .sl true 96 m.tables, .sl true 33 m.funcs]) [.dead] := by
  have h0 := h
  obtain ⟨⟨a1, a2, a3, a4⟩, h1, h2, h3, h4⟩ := h0
  refine fn34 m (Goes.ends (k' := k34_l0) (s' := s34_l0 m (0 : Nat) [m] [] [] [] [] (m.externs.take (0 : Nat)) [] [] []) (.step fun J => ?_) ?_)
  · rw [e34]
    rfl
  refine Goes.ends (Goes.upto (fun i => s34_l0 m i [m] [] [] [] [] (m.externs.take i) [] [] []) m.externs.length (fun i hi => RefCopy.l0 h hi) _ (Nat.le_refl _)) ?_
  refine Goes.ends (k' := k34_j0) (s' := s34_j0 m [m] [] [] [] [] m.externs [] [] []) (.step fun J => ?_) (Goes.ends (k' := k34_l2) (s' := s34_l2 m (0 : Nat) [m] [] [] [] [] m.externs (m.globals.take (0 : Nat)) [] []) (.step fun J => ?_) ?_)
  · rw [e34_l0]
    try simp only [List.getD_cons_zero]
    simp (disch := first | omega | assumption | (rw [decide_eq_true_eq]; omega) | (rw [decide_eq_false_iff_not]; omega)) only [↓if_pos, ↓if_neg, if_true, if_false, wrap_up, Int.toNat_natCast, Nat.zero_add, List.take_length]
  · rw [e34_j0]
    rfl
  refine Goes.ends (Goes.upto (fun i => s34_l2 m i [m] [] [] [] [] m.externs (m.globals.take i) [] []) m.globals.length (fun i hi => RefCopy.l2 h hi) _ (Nat.le_refl _)) ?_
  refine Goes.ends (k' := k34_j2) (s' := s34_j2 m [m] [] [] [] [] m.externs m.globals [] []) (.step fun J => ?_) (Goes.ends (k' := k34_l4) (s' := s34_l4 m (0 : Nat) [m] [] [] [] [] m.externs m.globals (m.tables.take (0 : Nat)) []) (.step fun J => ?_) ?_)
  · rw [e34_l2]
    try simp only [List.getD_cons_zero]
    simp (disch := first | omega | assumption | (rw [decide_eq_true_eq]; omega) | (rw [decide_eq_false_iff_not]; omega)) only [↓if_pos, ↓if_neg, if_true, if_false, wrap_up, Int.toNat_natCast, Nat.zero_add, List.take_length]
  · rw [e34_j2]
    rfl
  refine Goes.ends (Goes.upto (fun i => s34_l4 m i [m] [] [] [] [] m.externs m.globals (m.tables.take i) []) m.tables.length (fun i hi => RefCopy.l4 h hi) _ (Nat.le_refl _)) ?_
  refine Goes.ends (k' := k34_j4) (s' := s34_j4 m [m] [] [] [] [] m.externs m.globals m.tables []) (.step fun J => ?_) (Goes.ends (k' := k34_l6) (s' := s34_l6 m (0 : Nat) [m] [] [] [] [] m.externs m.globals m.tables (m.funcs.take (0 : Nat))) (.step fun J => ?_) ?_)
  · rw [e34_l4]
    try simp only [List.getD_cons_zero]
    simp (disch := first | omega | assumption | (rw [decide_eq_true_eq]; omega) | (rw [decide_eq_false_iff_not]; omega)) only [↓if_pos, ↓if_neg, if_true, if_false, wrap_up, Int.toNat_natCast, Nat.zero_add, List.take_length]
  · rw [e34_j4]
    rfl
  refine Goes.ends (Goes.upto (fun i => s34_l6 m i [m] [] [] [] [] m.externs m.globals m.tables (m.funcs.take i)) m.funcs.length (fun i hi => RefCopy.l6 h hi) _ (Nat.le_refl _)) ?_
  refine Goes.ends (k' := k34_j6) (s' := s34_j6 m [] [] [] [] m.externs m.globals m.tables m.funcs) (.step fun J => ?_) (.step fun J => e34_j6 ..)
  rw [e34_l6]
  try simp only [List.getD_cons_zero]
  simp (disch := first | omega | assumption | (rw [decide_eq_true_eq]; omega) | (rw [decide_eq_false_iff_not]; omega)) only [↓if_pos, ↓if_neg, if_true, if_false, wrap_up, Int.toNat_natCast, Nat.zero_add, List.take_length]
def S34 : List (AV Ty) → T (AV Ty × List (AV Ty))
  | [.agg x] => match cod27.dec false x with
    | some m => .ite (okM m) (okM.dec m) (.ret (.agg [.sl true 91 m.externs, .sl true 94 m.globals, .sl true 96 m.tables, .sl true 33 m.funcs], [.dead])) .fail
    | none => .fail
  | _ => .fail
theorem S34_ok (l : List (AV Ty)) (r : AV Ty) (outs : List (AV Ty)) (h : (S34 l).val = some (r, outs)) : CallOk tb Try.prog 34 l r outs := by
  unfold S34 at h
  split at h
  · rename_i x
    split at h
    · rename_i m e1
      rcases ite_val h with ⟨e, h⟩ | ⟨_, h⟩
      · cases h
        have h1 := cod27_ok.dec false x m e1
        subst h1
        exact refCopy_ok m e
      · cases h
    · cases h
  · cases h
noncomputable def b35 : Code := bodyOf Try.f35
noncomputable def C35 : Cfg Ty := ⟨fun
  | 80 => some ([], S80)
  | 81 => some ([], S81)
  | 76 => some ([], S76)
  | _ => none, fun
  | 2 => true
  | 3 => true
  | 5 => true
  | 7 => true
  | 9 => true
  | 300005 => true
  | 300007 => true
  | 300009 => true
  | 26 => true
  | 27 => true
  | 44 => true
  | 45 => true
  | 62 => true
  | 63 => true
  | 77 => true
  | 78 => true
  | 400025 => true
  | 400043 => true
  | 400061 => true
  | 400081 => true
  | _ => false, 82, 0⟩
def U35 : Cuts := ⟨fun
  | 0 => some [(1, none), (2, none), (3, none)]
  | 2 => some [(1, none), (2, none), (3, none)]
  | 4 => some [(1, none), (2, none), (3, none)]
  | 6 => some [(2, none), (3, none)]
  | _ => none, fun
  | 0 => some [(1, none), (2, none), (3, none), (13, none), (14, none), (15, none)]
  | 2 => some [(1, none), (2, none), (3, none), (31, none), (32, none), (33, none)]
  | 4 => some [(1, none), (2, none), (3, none), (49, none), (50, none), (51, none)]
  | 6 => some [(2, none), (3, none), (67, none), (68, none), (69, none)]
  | _ => none, fun _ => none⟩
noncomputable def k35_j0 : List Item := [.code (sndC (sndC (sndC b35)))]
noncomputable def k35_l0 : List Item := [.code (inC (inC (sndC (fstC (sndC (sndC b35)))))), .inLoop (inC (inC (sndC (fstC (sndC (sndC b35)))))), .inBlock 0, .code (sndC (sndC (sndC b35)))]
noncomputable def k35_j2 : List Item := [.code (sndC (sndC (sndC (sndC b35))))]
noncomputable def k35_l2 : List Item := [.code (inC (inC (sndC (fstC (sndC (sndC (sndC b35))))))), .inLoop (inC (inC (sndC (fstC (sndC (sndC (sndC b35))))))), .inBlock 2, .code (sndC (sndC (sndC (sndC b35))))]
noncomputable def k35_j4 : List Item := [.code (sndC (sndC (sndC (sndC (sndC b35)))))]
noncomputable def k35_l4 : List Item := [.code (inC (inC (sndC (fstC (sndC (sndC (sndC (sndC b35)))))))), .inLoop (inC (inC (sndC (fstC (sndC (sndC (sndC (sndC b35)))))))), .inBlock 4, .code (sndC (sndC (sndC (sndC (sndC b35)))))]
noncomputable def k35_j6 : List Item := [.code (sndC (sndC (sndC (sndC (sndC (sndC b35))))))]
noncomputable def k35_l6 : List Item := [.code (inC (inC (sndC (fstC (sndC (sndC (sndC (sndC (sndC b35))))))))), .inLoop (inC (inC (sndC (fstC (sndC (sndC (sndC (sndC (sndC b35))))))))), .inBlock 6, .code (sndC (sndC (sndC (sndC (sndC (sndC b35))))))]
def a35 (m : Module) : List (AV Ty) := [.agg [.sl false (91 : Nat) m.externs, .sl false (94 : Nat) m.globals, .sl false (96 : Nat) m.tables, .sl false (33 : Nat) m.funcs]]
noncomputable def R35 (m : Module) : St Ty → EvR := resT tb C35 Try.f35.results.toList .keep (a35 m)
def s35_l0 (m : Module) (v13 : List Extern) (v14 : Int) (v15 : Int) (h0 : List Module) (h1 : List Extern) (h1_1 : List Global) (h1_2 : List Table) (h1_3 : List Func) (h2 : List Extern) (h2_1 : List Global) (h2_2 : List Table) (h2_3 : List Func) : St Ty := St.mk [(1, .ptr (0) [] (0) (0)), (2, .ptr (1) [] (0) (0)), (3, .ptr (2) [] (0) (0)), (13, .sl false (91) v13), (14, .v (.int .i64 v14)), (15, .v (.int .i64 v15))] [some (Root.mk (27) false h0), some (Root.mk (27) true [Module.mk h1 h1_1 h1_2 h1_3]), some (Root.mk (27) true [Module.mk h2 h2_1 h2_2 h2_3])]
def s35_j0 (m : Module) (h0 : List Module) (h1 : List Extern) (h1_1 : List Global) (h1_2 : List Table) (h1_3 : List Func) (h2 : List Extern) (h2_1 : List Global) (h2_2 : List Table) (h2_3 : List Func) : St Ty := St.mk [(1, .ptr (0) [] (0) (0)), (2, .ptr (1) [] (0) (0)), (3, .ptr (2) [] (0) (0))] [some (Root.mk (27) false h0), some (Root.mk (27) true [Module.mk h1 h1_1 h1_2 h1_3]), some (Root.mk (27) true [Module.mk h2 h2_1 h2_2 h2_3])]
def s35_l2 (m : Module) (v31 : List Global) (v32 : Int) (v33 : Int) (h0 : List Module) (h1 : List Extern) (h1_1 : List Global) (h1_2 : List Table) (h1_3 : List Func) (h2 : List Extern) (h2_1 : List Global) (h2_2 : List Table) (h2_3 : List Func) : St Ty := St.mk [(1, .ptr (0) [] (0) (0)), (2, .ptr (1) [] (0) (0)), (3, .ptr (2) [] (0) (0)), (31, .sl false (94) v31), (32, .v (.int .i64 v32)), (33, .v (.int .i64 v33))] [some (Root.mk (27) false h0), some (Root.mk (27) true [Module.mk h1 h1_1 h1_2 h1_3]), some (Root.mk (27) true [Module.mk h2 h2_1 h2_2 h2_3])]
def s35_j2 (m : Module) (h0 : List Module) (h1 : List Extern) (h1_1 : List Global) (h1_2 : List Table) (h1_3 : List Func) (h2 : List Extern) (h2_1 : List Global) (h2_2 : List Table) (h2_3 : List Func) : St Ty := St.mk [(1, .ptr (0) [] (0) (0)), (2, .ptr (1) [] (0) (0)), (3, .ptr (2) [] (0) (0))] [some (Root.mk (27) false h0), some (Root.mk (27) true [Module.mk h1 h1_1 h1_2 h1_3]), some (Root.mk (27) true [Module.mk h2 h2_1 h2_2 h2_3])]
def s35_l4 (m : Module) (v49 : List Table) (v50 : Int) (v51 : Int) (h0 : List Module) (h1 : List Extern) (h1_1 : List Global) (h1_2 : List Table) (h1_3 : List Func) (h2 : List Extern) (h2_1 : List Global) (h2_2 : List Table) (h2_3 : List Func) : St Ty := St.mk [(1, .ptr (0) [] (0) (0)), (2, .ptr (1) [] (0) (0)), (3, .ptr (2) [] (0) (0)), (49, .sl false (96) v49), (50, .v (.int .i64 v50)), (51, .v (.int .i64 v51))] [some (Root.mk (27) false h0), some (Root.mk (27) true [Module.mk h1 h1_1 h1_2 h1_3]), some (Root.mk (27) true [Module.mk h2 h2_1 h2_2 h2_3])]
def s35_j4 (m : Module) (h0 : List Module) (h1 : List Extern) (h1_1 : List Global) (h1_2 : List Table) (h1_3 : List Func) (h2 : List Extern) (h2_1 : List Global) (h2_2 : List Table) (h2_3 : List Func) : St Ty := St.mk [(1, .ptr (0) [] (0) (0)), (2, .ptr (1) [] (0) (0)), (3, .ptr (2) [] (0) (0))] [some (Root.mk (27) false h0), some (Root.mk (27) true [Module.mk h1 h1_1 h1_2 h1_3]), some (Root.mk (27) true [Module.mk h2 h2_1 h2_2 h2_3])]
def s35_l6 (m : Module) (v67 : List Func) (v68 : Int) (v69 : Int) (h0 : List Extern) (h0_1 : List Global) (h0_2 : List Table) (h0_3 : List Func) (h1 : List Extern) (h1_1 : List Global) (h1_2 : List Table) (h1_3 : List Func) : St Ty := St.mk [(2, .ptr (0) [] (0) (0)), (3, .ptr (1) [] (0) (0)), (67, .sl false (33) v67), (68, .v (.int .i64 v68)), (69, .v (.int .i64 v69))] [some (Root.mk (27) true [Module.mk h0 h0_1 h0_2 h0_3]), some (Root.mk (27) true [Module.mk h1 h1_1 h1_2 h1_3])]
def s35_j6 (m : Module) (h0 : List Extern) (h0_1 : List Global) (h0_2 : List Table) (h0_3 : List Func) (h1 : List Extern) (h1_1 : List Global) (h1_2 : List Table) (h1_3 : List Func) : St Ty := St.mk [(2, .ptr (0) [] (0) (0)), (3, .ptr (1) [] (0) (0))] [some (Root.mk (27) true [Module.mk h0 h0_1 h0_2 h0_3]), some (Root.mk (27) true [Module.mk h1 h1_1 h1_2 h1_3])]
theorem e35 (J m) : run tb C35 U35 J (R35 m) 4096 [.code b35] ⟨slotsA (a35 m) 0 0, heapA (a35 m)⟩ =
 J k35_l0 (s35_l0 m m.externs ((↑m.externs.length : Int)) 0 ([Module.mk m.externs m.globals m.tables m.funcs]) ([]) ([]) ([]) ([]) ([]) ([]) ([]) ([])) := by kernel_rfl
theorem e35_l0 (J m v13 v14 v15 h0 h1 h1_1 h1_2 h1_3 h2 h2_1 h2_2 h2_3) : run tb C35 U35 J (R35 m) 4096 k35_l0 (s35_l0 m v13 v14 v15 h0 h1 h1_1 h1_2 h1_3 h2 h2_1 h2_2 h2_3) =
 if decide (v15 < v14) = true then
 if 0 ≤ v15 then
 if v15 < (↑v13.length : Int) then
 if (v13.getD v15.toNat (Extern.mk ByteArray.empty [] 0)).params.length ≤ 1000000 then
 if h2.length + [Extern.mk (v13.getD v15.toNat (Extern.mk ByteArray.empty [] 0)).name (v13.getD v15.toNat (Extern.mk ByteArray.empty [] 0)).params (v13.getD v15.toNat (Extern.mk ByteArray.empty [] 0)).result].length + 1 ≤ 549755813888 ∧ (h2.length + [Extern.mk (v13.getD v15.toNat (Extern.mk ByteArray.empty [] 0)).name (v13.getD v15.toNat (Extern.mk ByteArray.empty [] 0)).params (v13.getD v15.toNat (Extern.mk ByteArray.empty [] 0)).result].length + 1) * 48 ≤ 549755813888 then
 J k35_l0 (s35_l0 m v13 v14 (IntKind.i64.wrap (v15 + 1)) h0 h1 h1_1 h1_2 h1_3 (h2 ++ [Extern.mk (v13.getD v15.toNat (Extern.mk ByteArray.empty [] 0)).name (v13.getD v15.toNat (Extern.mk ByteArray.empty [] 0)).params (v13.getD v15.toNat (Extern.mk ByteArray.empty [] 0)).result]) h2_1 h2_2 h2_3)
 else none
 else none
 else none
 else none
 else
 J k35_j0 (s35_j0 m h0 h1 h1_1 h1_2 h1_3 h2 h2_1 h2_2 h2_3) := by kernel_rfl
theorem e35_j0 (J m h0 h1 h1_1 h1_2 h1_3 h2 h2_1 h2_2 h2_3) : run tb C35 U35 J (R35 m) 4096 k35_j0 (s35_j0 m h0 h1 h1_1 h1_2 h1_3 h2 h2_1 h2_2 h2_3) =
 J k35_l2 (s35_l2 m ((h0.getD (0) (Module.mk [] [] [] [])).globals) ((↑(h0.getD (0) (Module.mk [] [] [] [])).globals.length : Int)) 0 h0 h1 h1_1 h1_2 h1_3 h2 h2_1 h2_2 h2_3) := by kernel_rfl
theorem e35_l2 (J m v31 v32 v33 h0 h1 h1_1 h1_2 h1_3 h2 h2_1 h2_2 h2_3) : run tb C35 U35 J (R35 m) 4096 k35_l2 (s35_l2 m v31 v32 v33 h0 h1 h1_1 h1_2 h1_3 h2 h2_1 h2_2 h2_3) =
 if decide (v33 < v32) = true then
 if 0 ≤ v33 then
 if v33 < (↑v31.length : Int) then
 if (v31.getD v33.toNat (Global.mk ByteArray.empty [])).cells.length ≤ 1000000 then
 if h2_1.length + [Global.mk (v31.getD v33.toNat (Global.mk ByteArray.empty [])).name (v31.getD v33.toNat (Global.mk ByteArray.empty [])).cells].length + 1 ≤ 549755813888 ∧ (h2_1.length + [Global.mk (v31.getD v33.toNat (Global.mk ByteArray.empty [])).name (v31.getD v33.toNat (Global.mk ByteArray.empty [])).cells].length + 1) * 40 ≤ 549755813888 then
 J k35_l2 (s35_l2 m v31 v32 (IntKind.i64.wrap (v33 + 1)) h0 h1 h1_1 h1_2 h1_3 h2 (h2_1 ++ [Global.mk (v31.getD v33.toNat (Global.mk ByteArray.empty [])).name (v31.getD v33.toNat (Global.mk ByteArray.empty [])).cells]) h2_2 h2_3)
 else none
 else none
 else none
 else none
 else
 J k35_j2 (s35_j2 m h0 h1 h1_1 h1_2 h1_3 h2 h2_1 h2_2 h2_3) := by kernel_rfl
theorem e35_j2 (J m h0 h1 h1_1 h1_2 h1_3 h2 h2_1 h2_2 h2_3) : run tb C35 U35 J (R35 m) 4096 k35_j2 (s35_j2 m h0 h1 h1_1 h1_2 h1_3 h2 h2_1 h2_2 h2_3) =
 J k35_l4 (s35_l4 m ((h0.getD (0) (Module.mk [] [] [] [])).tables) ((↑(h0.getD (0) (Module.mk [] [] [] [])).tables.length : Int)) 0 h0 h1 h1_1 h1_2 h1_3 h2 h2_1 h2_2 h2_3) := by kernel_rfl
theorem e35_l4 (J m v49 v50 v51 h0 h1 h1_1 h1_2 h1_3 h2 h2_1 h2_2 h2_3) : run tb C35 U35 J (R35 m) 4096 k35_l4 (s35_l4 m v49 v50 v51 h0 h1 h1_1 h1_2 h1_3 h2 h2_1 h2_2 h2_3) =
 if decide (v51 < v50) = true then
 if 0 ≤ v51 then
 if v51 < (↑v49.length : Int) then
 if (v49.getD v51.toNat (Table.mk ByteArray.empty [])).funcs.length ≤ 1000000 then
 if h2_2.length + [Table.mk (v49.getD v51.toNat (Table.mk ByteArray.empty [])).name (v49.getD v51.toNat (Table.mk ByteArray.empty [])).funcs].length + 1 ≤ 549755813888 ∧ (h2_2.length + [Table.mk (v49.getD v51.toNat (Table.mk ByteArray.empty [])).name (v49.getD v51.toNat (Table.mk ByteArray.empty [])).funcs].length + 1) * 40 ≤ 549755813888 then
 J k35_l4 (s35_l4 m v49 v50 (IntKind.i64.wrap (v51 + 1)) h0 h1 h1_1 h1_2 h1_3 h2 h2_1 (h2_2 ++ [Table.mk (v49.getD v51.toNat (Table.mk ByteArray.empty [])).name (v49.getD v51.toNat (Table.mk ByteArray.empty [])).funcs]) h2_3)
 else none
 else none
 else none
 else none
 else
 J k35_j4 (s35_j4 m h0 h1 h1_1 h1_2 h1_3 h2 h2_1 h2_2 h2_3) := by kernel_rfl
theorem e35_j4 (J m h0 h1 h1_1 h1_2 h1_3 h2 h2_1 h2_2 h2_3) : run tb C35 U35 J (R35 m) 4096 k35_j4 (s35_j4 m h0 h1 h1_1 h1_2 h1_3 h2 h2_1 h2_2 h2_3) =
 J k35_l6 (s35_l6 m ((h0.getD (0) (Module.mk [] [] [] [])).funcs) ((↑(h0.getD (0) (Module.mk [] [] [] [])).funcs.length : Int)) 0 h1 h1_1 h1_2 h1_3 h2 h2_1 h2_2 h2_3) := by kernel_rfl
theorem e35_l6 (J m v67 v68 v69 h0 h0_1 h0_2 h0_3 h1 h1_1 h1_2 h1_3) : run tb C35 U35 J (R35 m) 4096 k35_l6 (s35_l6 m v67 v68 v69 h0 h0_1 h0_2 h0_3 h1 h1_1 h1_2 h1_3) =
 if decide (v69 < v68) = true then
 if 0 ≤ v69 then
 if v69 < (↑v67.length : Int) then
 if okF (Func.mk (v67.getD v69.toNat (Func.mk ByteArray.empty false [] 0 [])).name (v67.getD v69.toNat (Func.mk ByteArray.empty false [] 0 [])).out (v67.getD v69.toNat (Func.mk ByteArray.empty false [] 0 [])).params (v67.getD v69.toNat (Func.mk ByteArray.empty false [] 0 [])).result (v67.getD v69.toNat (Func.mk ByteArray.empty false [] 0 [])).blocks) then
 if h1_3.length + [Func.mk (v67.getD v69.toNat (Func.mk ByteArray.empty false [] 0 [])).name (v67.getD v69.toNat (Func.mk ByteArray.empty false [] 0 [])).out (v67.getD v69.toNat (Func.mk ByteArray.empty false [] 0 [])).params (v67.getD v69.toNat (Func.mk ByteArray.empty false [] 0 [])).result (v67.getD v69.toNat (Func.mk ByteArray.empty false [] 0 [])).blocks].length + 1 ≤ 549755813888 ∧ (h1_3.length + [Func.mk (v67.getD v69.toNat (Func.mk ByteArray.empty false [] 0 [])).name (v67.getD v69.toNat (Func.mk ByteArray.empty false [] 0 [])).out (v67.getD v69.toNat (Func.mk ByteArray.empty false [] 0 [])).params (v67.getD v69.toNat (Func.mk ByteArray.empty false [] 0 [])).result (v67.getD v69.toNat (Func.mk ByteArray.empty false [] 0 [])).blocks].length + 1) * 80 ≤ 549755813888 then
 J k35_l6 (s35_l6 m v67 v68 (IntKind.i64.wrap (v69 + 1)) h0 h0_1 h0_2 h0_3 h1 h1_1 h1_2 (h1_3 ++ [Func.mk (v67.getD v69.toNat (Func.mk ByteArray.empty false [] 0 [])).name (v67.getD v69.toNat (Func.mk ByteArray.empty false [] 0 [])).out (v67.getD v69.toNat (Func.mk ByteArray.empty false [] 0 [])).params (v67.getD v69.toNat (Func.mk ByteArray.empty false [] 0 [])).result (v67.getD v69.toNat (Func.mk ByteArray.empty false [] 0 [])).blocks]))
 else none
 else none
 else none
 else none
 else
 J k35_j6 (s35_j6 m h0 h0_1 h0_2 h0_3 h1 h1_1 h1_2 h1_3) := by kernel_rfl
theorem e35_j6 (J m h0 h0_1 h0_2 h0_3 h1 h1_1 h1_2 h1_3) : run tb C35 U35 J (R35 m) 4096 k35_j6 (s35_j6 m h0 h0_1 h0_2 h0_3 h1 h1_1 h1_2 h1_3) =
 some (.agg [.sl true 91 h1, .sl true 94 h1_1, .sl true 96 h1_2, .sl true 33 h1_3], [.dead]) := by kernel_rfl

theorem in35 : Entered 35 := ⟨Try.f35, b35, by kernel_rfl, by kernel_rfl, by kernel_rfl⟩
theorem fn35 (m : Ev.Module) {res : AV Ty} {outs : List (AV Ty)} (h : Ends C35 U35 (R35 m) [.code b35] ⟨slotsA (a35 m) 0 0, heapA (a35 m)⟩ (some (res, outs))) : CallOk tb Try.prog 35 (a35 m) res outs := by
  obtain ⟨n0, hn⟩ := h
  exact fn_ok (C := C35) (U := U35) (n := 0 + n0) (q := .keep) tbOk good (fun f mu S h => by
    unfold C35 at h
    simp only at h
    split at h
    · cases h; exact ⟨in80, S80_ok⟩
    · cases h; exact ⟨in81, S81_ok⟩
    · cases h; exact ⟨in76, S76_ok⟩
    · cases h) mixed (fn := Try.f35) (body := b35) (by kernel_rfl) (by kernel_rfl) rfl rfl (by show 1 ≤ 82; omega) (hn 0)
section
variable {m : Ev.Module}
theorem IrCopy.l0 (h : okM m) {i : Nat} (hi : i < m.externs.length) : Goes C35 U35 (R35 m) k35_l0 (s35_l0 m m.externs m.externs.length i [m] [] [] [] [] (m.externs.take i) [] [] []) k35_l0 (s35_l0 m m.externs m.externs.length (i + 1 : Nat) [m] [] [] [] [] (m.externs.take (i + 1 : Nat)) [] [] []) := .step fun J => by
  have e : Extern.mk (m.externs.getD i (Extern.mk ByteArray.empty [] 0)).name (m.externs.getD i (Extern.mk ByteArray.empty [] 0)).params (m.externs.getD i (Extern.mk ByteArray.empty [] 0)).result = m.externs.getD i (Extern.mk ByteArray.empty [] 0) := rfl
  obtain ⟨⟨a1, a2, a3, a4⟩, h1, h2, h3, h4⟩ := h
  have h5 : (m.externs.take i).length ≤ 1000 := by rw [List.length_take]; omega
  have h6 := h1 _ (getD_mem (d := (Extern.mk ByteArray.empty [] 0)) hi)
  rw [e35_l0, take_step (d := (Extern.mk ByteArray.empty [] 0)) hi]
  simp only [Int.toNat_natCast, List.getD_cons_zero]
  rw [e]
  simp (disch := first | omega | assumption | (rw [decide_eq_true_eq]; omega) | (rw [decide_eq_false_iff_not]; omega)) only [↓if_pos, ↓if_neg, if_true, if_false, wrap_up, Int.toNat_natCast, Nat.zero_add, List.length_singleton]
  rfl
theorem IrCopy.l2 (h : okM m) {i : Nat} (hi : i < m.globals.length) : Goes C35 U35 (R35 m) k35_l2 (s35_l2 m m.globals m.globals.length i [m] [] [] [] [] m.externs (m.globals.take i) [] []) k35_l2 (s35_l2 m m.globals m.globals.length (i + 1 : Nat) [m] [] [] [] [] m.externs (m.globals.take (i + 1 : Nat)) [] []) := .step fun J => by
  have e : Global.mk (m.globals.getD i (Global.mk ByteArray.empty [])).name (m.globals.getD i (Global.mk ByteArray.empty [])).cells = m.globals.getD i (Global.mk ByteArray.empty []) := rfl
  obtain ⟨⟨a1, a2, a3, a4⟩, h1, h2, h3, h4⟩ := h
  have h5 : (m.globals.take i).length ≤ 1000 := by rw [List.length_take]; omega
  have h6 := h2 _ (getD_mem (d := (Global.mk ByteArray.empty [])) hi)
  rw [e35_l2, take_step (d := (Global.mk ByteArray.empty [])) hi]
  simp only [Int.toNat_natCast, List.getD_cons_zero]
  rw [e]
  simp (disch := first | omega | assumption | (rw [decide_eq_true_eq]; omega) | (rw [decide_eq_false_iff_not]; omega)) only [↓if_pos, ↓if_neg, if_true, if_false, wrap_up, Int.toNat_natCast, Nat.zero_add, List.length_singleton]
  rfl
theorem IrCopy.l4 (h : okM m) {i : Nat} (hi : i < m.tables.length) : Goes C35 U35 (R35 m) k35_l4 (s35_l4 m m.tables m.tables.length i [m] [] [] [] [] m.externs m.globals (m.tables.take i) []) k35_l4 (s35_l4 m m.tables m.tables.length (i + 1 : Nat) [m] [] [] [] [] m.externs m.globals (m.tables.take (i + 1 : Nat)) []) := .step fun J => by
  have e : Table.mk (m.tables.getD i (Table.mk ByteArray.empty [])).name (m.tables.getD i (Table.mk ByteArray.empty [])).funcs = m.tables.getD i (Table.mk ByteArray.empty []) := rfl
  obtain ⟨⟨a1, a2, a3, a4⟩, h1, h2, h3, h4⟩ := h
  have h5 : (m.tables.take i).length ≤ 1000 := by rw [List.length_take]; omega
  have h6 := h3 _ (getD_mem (d := (Table.mk ByteArray.empty [])) hi)
  rw [e35_l4, take_step (d := (Table.mk ByteArray.empty [])) hi]
  simp only [Int.toNat_natCast, List.getD_cons_zero]
  rw [e]
  simp (disch := first | omega | assumption | (rw [decide_eq_true_eq]; omega) | (rw [decide_eq_false_iff_not]; omega)) only [↓if_pos, ↓if_neg, if_true, if_false, wrap_up, Int.toNat_natCast, Nat.zero_add, List.length_singleton]
  rfl
theorem IrCopy.l6 (h : okM m) {i : Nat} (hi : i < m.funcs.length) : Goes C35 U35 (R35 m) k35_l6 (s35_l6 m m.funcs m.funcs.length i [] [] [] [] m.externs m.globals m.tables (m.funcs.take i)) k35_l6 (s35_l6 m m.funcs m.funcs.length (i + 1 : Nat) [] [] [] [] m.externs m.globals m.tables (m.funcs.take (i + 1 : Nat))) := .step fun J => by
  have e : Func.mk (m.funcs.getD i (Func.mk ByteArray.empty false [] 0 [])).name (m.funcs.getD i (Func.mk ByteArray.empty false [] 0 [])).out (m.funcs.getD i (Func.mk ByteArray.empty false [] 0 [])).params (m.funcs.getD i (Func.mk ByteArray.empty false [] 0 [])).result (m.funcs.getD i (Func.mk ByteArray.empty false [] 0 [])).blocks = m.funcs.getD i (Func.mk ByteArray.empty false [] 0 []) := rfl
  obtain ⟨⟨a1, a2, a3, a4⟩, h1, h2, h3, h4⟩ := h
  have h5 : (m.funcs.take i).length ≤ 1000 := by rw [List.length_take]; omega
  have h6 := h4 _ (getD_mem (d := (Func.mk ByteArray.empty false [] 0 [])) hi)
  rw [e35_l6, take_step (d := (Func.mk ByteArray.empty false [] 0 [])) hi]
  simp only [Int.toNat_natCast, List.getD_cons_zero]
  rw [e]
  simp (disch := first | omega | assumption | (rw [decide_eq_true_eq]; omega) | (rw [decide_eq_false_iff_not]; omega)) only [↓if_pos, ↓if_neg, if_true, if_false, wrap_up, Int.toNat_natCast, Nat.zero_add, List.length_singleton]
  rfl
end
theorem irCopy_ok (m : Ev.Module) (h : okM m) : CallOk tb Try.prog 35 (a35 m) (.agg [.sl true 91 m.externs, .sl true 94 m.globals, .sl true 96 m.tables, .sl true 33 m.funcs]) [.dead] := by
  have h0 := h
  obtain ⟨⟨a1, a2, a3, a4⟩, h1, h2, h3, h4⟩ := h0
  refine fn35 m (Goes.ends (k' := k35_l0) (s' := s35_l0 m m.externs m.externs.length (0 : Nat) [m] [] [] [] [] (m.externs.take (0 : Nat)) [] [] []) (.step fun J => ?_) ?_)
  · rw [e35]
    rfl
  refine Goes.ends (Goes.upto (fun i => s35_l0 m m.externs m.externs.length i [m] [] [] [] [] (m.externs.take i) [] [] []) m.externs.length (fun i hi => IrCopy.l0 h hi) _ (Nat.le_refl _)) ?_
  refine Goes.ends (k' := k35_j0) (s' := s35_j0 m [m] [] [] [] [] m.externs [] [] []) (.step fun J => ?_) (Goes.ends (k' := k35_l2) (s' := s35_l2 m m.globals m.globals.length (0 : Nat) [m] [] [] [] [] m.externs (m.globals.take (0 : Nat)) [] []) (.step fun J => ?_) ?_)
  · rw [e35_l0]
    try simp only [List.getD_cons_zero]
    simp (disch := first | omega | assumption | (rw [decide_eq_true_eq]; omega) | (rw [decide_eq_false_iff_not]; omega)) only [↓if_pos, ↓if_neg, if_true, if_false, wrap_up, Int.toNat_natCast, Nat.zero_add, List.take_length]
  · rw [e35_j0]
    rfl
  refine Goes.ends (Goes.upto (fun i => s35_l2 m m.globals m.globals.length i [m] [] [] [] [] m.externs (m.globals.take i) [] []) m.globals.length (fun i hi => IrCopy.l2 h hi) _ (Nat.le_refl _)) ?_
  refine Goes.ends (k' := k35_j2) (s' := s35_j2 m [m] [] [] [] [] m.externs m.globals [] []) (.step fun J => ?_) (Goes.ends (k' := k35_l4) (s' := s35_l4 m m.tables m.tables.length (0 : Nat) [m] [] [] [] [] m.externs m.globals (m.tables.take (0 : Nat)) []) (.step fun J => ?_) ?_)
  · rw [e35_l2]
    try simp only [List.getD_cons_zero]
    simp (disch := first | omega | assumption | (rw [decide_eq_true_eq]; omega) | (rw [decide_eq_false_iff_not]; omega)) only [↓if_pos, ↓if_neg, if_true, if_false, wrap_up, Int.toNat_natCast, Nat.zero_add, List.take_length]
  · rw [e35_j2]
    rfl
  refine Goes.ends (Goes.upto (fun i => s35_l4 m m.tables m.tables.length i [m] [] [] [] [] m.externs m.globals (m.tables.take i) []) m.tables.length (fun i hi => IrCopy.l4 h hi) _ (Nat.le_refl _)) ?_
  refine Goes.ends (k' := k35_j4) (s' := s35_j4 m [m] [] [] [] [] m.externs m.globals m.tables []) (.step fun J => ?_) (Goes.ends (k' := k35_l6) (s' := s35_l6 m m.funcs m.funcs.length (0 : Nat) [] [] [] [] m.externs m.globals m.tables (m.funcs.take (0 : Nat))) (.step fun J => ?_) ?_)
  · rw [e35_l4]
    try simp only [List.getD_cons_zero]
    simp (disch := first | omega | assumption | (rw [decide_eq_true_eq]; omega) | (rw [decide_eq_false_iff_not]; omega)) only [↓if_pos, ↓if_neg, if_true, if_false, wrap_up, Int.toNat_natCast, Nat.zero_add, List.take_length]
  · rw [e35_j4]
    rfl
  refine Goes.ends (Goes.upto (fun i => s35_l6 m m.funcs m.funcs.length i [] [] [] [] m.externs m.globals m.tables (m.funcs.take i)) m.funcs.length (fun i hi => IrCopy.l6 h hi) _ (Nat.le_refl _)) ?_
  refine Goes.ends (k' := k35_j6) (s' := s35_j6 m [] [] [] [] m.externs m.globals m.tables m.funcs) (.step fun J => ?_) (.step fun J => e35_j6 ..)
  rw [e35_l6]
  try simp only [List.getD_cons_zero]
  simp (disch := first | omega | assumption | (rw [decide_eq_true_eq]; omega) | (rw [decide_eq_false_iff_not]; omega)) only [↓if_pos, ↓if_neg, if_true, if_false, wrap_up, Int.toNat_natCast, Nat.zero_add, List.take_length]
def S35 : List (AV Ty) → T (AV Ty × List (AV Ty))
  | [.agg x] => match cod27.dec false x with
    | some m => .ite (okM m) (okM.dec m) (.ret (.agg [.sl true 91 m.externs, .sl true 94 m.globals, .sl true 96 m.tables, .sl true 33 m.funcs], [.dead])) .fail
    | none => .fail
  | _ => .fail
theorem S35_ok (l : List (AV Ty)) (r : AV Ty) (outs : List (AV Ty)) (h : (S35 l).val = some (r, outs)) : CallOk tb Try.prog 35 l r outs := by
  unfold S35 at h
  split at h
  · rename_i x
    split at h
    · rename_i m e1
      rcases ite_val h with ⟨e, h⟩ | ⟨_, h⟩
      · cases h
        have h1 := cod27_ok.dec false x m e1
        subst h1
        exact irCopy_ok m e
      · cases h
    · cases h
  · cases h
end Go.Proofs.Ytggibjbcbicpjaa.Ev
