/- plnlaw3.IrTells answers true. -/
import Derived.Test.YtggibjbcbicpjaaJrA
import Derived.Test.YtggibjbcbicpjaaIrI
namespace Go.Proofs.Ytggibjbcbicpjaa.Ev
open Go
set_option linter.unusedVariables false
set_option linter.unusedSimpArgs false
theorem useV_len (out : List Int) (v : Int) : (useV out v).length = out.length := by
  unfold useV
  split <;> simp
theorem fold_len {α : Type} {g : List Int → α → List Int} (h : ∀ out x, (g out x).length = out.length) : ∀ (l : List α) (out : List Int), (l.foldl g out).length = out.length
  | [], out => rfl
  | x :: l, out => by
    rw [List.foldl_cons, fold_len h l, h]
theorem usesOf_len (f : Ev.Func) : (usesOf f).length = (typesOf f).length := by
  unfold usesOf
  rw [fold_len (g := useB) (fun out b => fold_len (g := useI) (fun out i => fold_len (g := useV) useV_len _ _) _ _)]
  simp
noncomputable def b12 : Code := bodyOf Try.f12
noncomputable def C12 : Cfg Ty := ⟨fun
  | 24 => some ([], S24)
  | 33 => some ([], S33)
  | 49 => some ([], S49)
  | 50 => some ([], S50)
  | 48 => some ([], S48)
  | 37 => some ([], S37)
  | 35 => some ([], S35)
  | 51 => some ([], S51)
  | 28 => some ([], S28)
  | 31 => some ([], S31)
  | 21 => some ([], S21)
  | 52 => some ([], S52)
  | 30 => some ([], S30)
  | 29 => some ([], S29)
  | 53 => some ([], S53)
  | 22 => some ([], S22)
  | 26 => some ([], S26)
  | 54 => some ([], S54)
  | 27 => some ([], S27)
  | 55 => some ([], S55)
  | _ => none, fun _ => false, 116, 0⟩
def U12 : Cuts := ⟨fun
  | 0 => some []
  | 1 => some [(2, none), (3, none), (5, none)]
  | 2 => some [(2, none), (3, none), (5, none)]
  | _ => none, fun
  | 0 => some [(2, none), (3, none), (5, none)]
  | 2 => some [(2, none), (3, none), (5, none), (6, none), (7, none)]
  | _ => none, fun
  | 5 => some [0, 2, 1, 3, 4, 5, 6, 7, 9, 10, 8, 11, 12, 13, 14, 15, 16, 17, 18, 19, 20, 21, 23, 22, 24, 25, 26]
  | 11 => some [0, 2, 1, 3, 4, 5, 6, 8, 7, 9, 10, 11, 12, 13, 15, 14, 16, 17, 18, 19, 20, 21, 23, 22, 24, 25, 26, 27, 28, 29, 31, 30, 32, 33, 34, 35]
  | 16 => some [0, 1, 2, 3, 4, 5, 7, 8, 9, 10, 11, 12, 6, 13, 14]
  | _ => none⟩
noncomputable def k12_j0 : List Item := [.code (sndC (sndC (sndC (sndC (sndC b12)))))]
noncomputable def k12_l0 : List Item := [.code (inC (inC (sndC (fstC (sndC (sndC (sndC (sndC b12)))))))), .inLoop (inC (inC (sndC (fstC (sndC (sndC (sndC (sndC b12)))))))), .inBlock 0, .code (sndC (sndC (sndC (sndC (sndC b12)))))]
noncomputable def k12_j1 : List Item := [.code (sndC (sndC (inC (inC (sndC (fstC (sndC (sndC (sndC (sndC b12)))))))))), .inLoop (inC (inC (sndC (fstC (sndC (sndC (sndC (sndC b12)))))))), .inBlock 0, .code (sndC (sndC (sndC (sndC (sndC b12)))))]
noncomputable def k12_j2 : List Item := [.inBlock 1, .code (sndC (sndC (inC (inC (sndC (fstC (sndC (sndC (sndC (sndC b12)))))))))), .inLoop (inC (inC (sndC (fstC (sndC (sndC (sndC (sndC b12)))))))), .inBlock 0, .code (sndC (sndC (sndC (sndC (sndC b12)))))]
noncomputable def k12_l2 : List Item := [.code (inC (inC (sndC (sndC (sndC (inC (fstC (sndC (inC (inC (sndC (fstC (sndC (sndC (sndC (sndC b12)))))))))))))))), .inLoop (inC (inC (sndC (sndC (sndC (inC (fstC (sndC (inC (inC (sndC (fstC (sndC (sndC (sndC (sndC b12)))))))))))))))), .inBlock 2, .inBlock 1, .code (sndC (sndC (inC (inC (sndC (fstC (sndC (sndC (sndC (sndC b12)))))))))), .inLoop (inC (inC (sndC (fstC (sndC (sndC (sndC (sndC b12)))))))), .inBlock 0, .code (sndC (sndC (sndC (sndC (sndC b12)))))]
def a12 (m : Module) (o : Module) : List (AV Ty) := [.agg [.sl false (91 : Nat) m.externs, .sl false (94 : Nat) m.globals, .sl false (96 : Nat) m.tables, .sl false (33 : Nat) m.funcs], .agg [.sl false (91 : Nat) o.externs, .sl false (94 : Nat) o.globals, .sl false (96 : Nat) o.tables, .sl false (33 : Nat) o.funcs]]
noncomputable def R12 (m : Module) (o : Module) : St Ty → EvR := resT tb C12 Try.f12.results.toList .keep (a12 m o)
def s12_l0 (m : Module) (o : Module) (v5 : Int) (h0 : List Module) (h1 : List Module) : St Ty := St.mk [(2, .ptr (0) [] (0) (0)), (3, .ptr (1) [] (0) (0)), (5, .v (.int .i64 v5))] [some (Root.mk (27) false h0), some (Root.mk (27) false h1)]
def s12_l2 (m : Module) (o : Module) (v5 : Int) (v7 : Int) (h0 : List Module) (h1 : List Module) (h2 : List Func) : St Ty := St.mk [(2, .ptr (0) [] (0) (0)), (3, .ptr (1) [] (0) (0)), (5, .v (.int .i64 v5)), (6, .ptr (2) [] (0) (0)), (7, .v (.int .i64 v7))] [some (Root.mk (27) false h0), some (Root.mk (27) false h1), some (Root.mk (33) false h2)]
def s12_j0 (m : Module) (o : Module)  : St Ty := St.mk [] []
def s12_j2 (m : Module) (o : Module) (v5 : Int) (h0 : List Module) (h1 : List Module) : St Ty := St.mk [(2, .ptr (0) [] (0) (0)), (3, .ptr (1) [] (0) (0)), (5, .v (.int .i64 v5))] [some (Root.mk (27) false h0), some (Root.mk (27) false h1)]
def s12_j1 (m : Module) (o : Module) (v5 : Int) (h0 : List Module) (h1 : List Module) : St Ty := St.mk [(2, .ptr (0) [] (0) (0)), (3, .ptr (1) [] (0) (0)), (5, .v (.int .i64 v5))] [some (Root.mk (27) false h0), some (Root.mk (27) false h1)]
theorem e12 (J m o) : run tb C12 U12 J (R12 m o) 4096 [.code b12] ⟨slotsA (a12 m o) 0 0, heapA (a12 m o)⟩ =
 if wideM (Module.mk m.externs m.globals m.tables m.funcs) then
 if (!smallB (Module.mk m.externs m.globals m.tables m.funcs)) = false then
 if wideM (Module.mk o.externs o.globals o.tables o.funcs) then
 if (!smallB (Module.mk o.externs o.globals o.tables o.funcs)) = true then
 some (.v (.bool true), [.dead, .dead])
 else
 if okM (Module.mk m.externs m.globals m.tables m.funcs) then
 if okM (Module.mk m.externs m.globals m.tables m.funcs) then
 if ((↑(szF m.funcs) : Int) != (↑(szF m.funcs) : Int)) = false then
 if okM (Module.mk m.externs m.globals m.tables m.funcs) then
 if okM (Module.mk m.externs m.globals m.tables m.funcs) then
 if (!sameMo (Module.mk m.externs m.globals m.tables m.funcs) (Module.mk o.externs o.globals o.tables o.funcs) == sameMo (Module.mk m.externs m.globals m.tables m.funcs) (Module.mk o.externs o.globals o.tables o.funcs)) = false then
 if okM (Module.mk m.externs m.globals m.tables m.funcs) then
 if (!sameMo (Module.mk m.externs m.globals m.tables m.funcs) (Module.mk m.externs m.globals m.tables m.funcs)) = false then
 if okM (Module.mk m.externs m.globals m.tables m.funcs) then
 if okM (Module.mk m.externs m.globals m.tables m.funcs) then
 if (!sameMo (Module.mk m.externs m.globals m.tables m.funcs) (Module.mk m.externs m.globals m.tables m.funcs)) = true then
 some (.v (.bool false), [.dead, .dead])
 else
 J k12_l0 (s12_l0 m o 0 ([Module.mk m.externs m.globals m.tables m.funcs]) ([Module.mk o.externs o.globals o.tables o.funcs]))
 else none
 else none
 else
 some (.v (.bool false), [.dead, .dead])
 else none
 else
 some (.v (.bool false), [.dead, .dead])
 else none
 else none
 else
 some (.v (.bool false), [.dead, .dead])
 else none
 else none
 else none
 else
 some (.v (.bool true), [.dead, .dead])
 else none := by kernel_rfl
theorem e12_l0 (J m o v5 h0 h1) : run tb C12 U12 J (R12 m o) 4096 k12_l0 (s12_l0 m o v5 h0 h1) =
 if decide (v5 < (↑(h0.getD (0) (Module.mk [] [] [] [])).funcs.length : Int)) = true then
 if 0 ≤ v5 then
 if v5 < (↑(h0.getD (0) (Module.mk [] [] [] [])).funcs.length : Int) then
 if okF (Func.mk ((h0.getD (0) (Module.mk [] [] [] [])).funcs.getD v5.toNat (Func.mk ByteArray.empty false [] 0 [])).name ((h0.getD (0) (Module.mk [] [] [] [])).funcs.getD v5.toNat (Func.mk ByteArray.empty false [] 0 [])).out ((h0.getD (0) (Module.mk [] [] [] [])).funcs.getD v5.toNat (Func.mk ByteArray.empty false [] 0 [])).params ((h0.getD (0) (Module.mk [] [] [] [])).funcs.getD v5.toNat (Func.mk ByteArray.empty false [] 0 [])).result ((h0.getD (0) (Module.mk [] [] [] [])).funcs.getD v5.toNat (Func.mk ByteArray.empty false [] 0 [])).blocks) then
 if okF (Func.mk ((h0.getD (0) (Module.mk [] [] [] [])).funcs.getD v5.toNat (Func.mk ByteArray.empty false [] 0 [])).name ((h0.getD (0) (Module.mk [] [] [] [])).funcs.getD v5.toNat (Func.mk ByteArray.empty false [] 0 [])).out ((h0.getD (0) (Module.mk [] [] [] [])).funcs.getD v5.toNat (Func.mk ByteArray.empty false [] 0 [])).params ((h0.getD (0) (Module.mk [] [] [] [])).funcs.getD v5.toNat (Func.mk ByteArray.empty false [] 0 [])).result ((h0.getD (0) (Module.mk [] [] [] [])).funcs.getD v5.toNat (Func.mk ByteArray.empty false [] 0 [])).blocks) then
 if ((↑(szT ((h0.getD (0) (Module.mk [] [] [] [])).funcs.getD v5.toNat (Func.mk ByteArray.empty false [] 0 [])).blocks) : Int) != (↑(szT ((h0.getD (0) (Module.mk [] [] [] [])).funcs.getD v5.toNat (Func.mk ByteArray.empty false [] 0 [])).blocks) : Int)) = false then
 if okF (Func.mk ((h0.getD (0) (Module.mk [] [] [] [])).funcs.getD v5.toNat (Func.mk ByteArray.empty false [] 0 [])).name ((h0.getD (0) (Module.mk [] [] [] [])).funcs.getD v5.toNat (Func.mk ByteArray.empty false [] 0 [])).out ((h0.getD (0) (Module.mk [] [] [] [])).funcs.getD v5.toNat (Func.mk ByteArray.empty false [] 0 [])).params ((h0.getD (0) (Module.mk [] [] [] [])).funcs.getD v5.toNat (Func.mk ByteArray.empty false [] 0 [])).result ((h0.getD (0) (Module.mk [] [] [] [])).funcs.getD v5.toNat (Func.mk ByteArray.empty false [] 0 [])).blocks) then
 if okF (Func.mk ((h0.getD (0) (Module.mk [] [] [] [])).funcs.getD v5.toNat (Func.mk ByteArray.empty false [] 0 [])).name ((h0.getD (0) (Module.mk [] [] [] [])).funcs.getD v5.toNat (Func.mk ByteArray.empty false [] 0 [])).out ((h0.getD (0) (Module.mk [] [] [] [])).funcs.getD v5.toNat (Func.mk ByteArray.empty false [] 0 [])).params ((h0.getD (0) (Module.mk [] [] [] [])).funcs.getD v5.toNat (Func.mk ByteArray.empty false [] 0 [])).result ((h0.getD (0) (Module.mk [] [] [] [])).funcs.getD v5.toNat (Func.mk ByteArray.empty false [] 0 [])).blocks) then
 if ((↑(typesOf (Func.mk ((h0.getD (0) (Module.mk [] [] [] [])).funcs.getD v5.toNat (Func.mk ByteArray.empty false [] 0 [])).name ((h0.getD (0) (Module.mk [] [] [] [])).funcs.getD v5.toNat (Func.mk ByteArray.empty false [] 0 [])).out ((h0.getD (0) (Module.mk [] [] [] [])).funcs.getD v5.toNat (Func.mk ByteArray.empty false [] 0 [])).params ((h0.getD (0) (Module.mk [] [] [] [])).funcs.getD v5.toNat (Func.mk ByteArray.empty false [] 0 [])).result ((h0.getD (0) (Module.mk [] [] [] [])).funcs.getD v5.toNat (Func.mk ByteArray.empty false [] 0 [])).blocks)).length : Int) - 1 != (↑(typesOf (Func.mk ((h0.getD (0) (Module.mk [] [] [] [])).funcs.getD v5.toNat (Func.mk ByteArray.empty false [] 0 [])).name ((h0.getD (0) (Module.mk [] [] [] [])).funcs.getD v5.toNat (Func.mk ByteArray.empty false [] 0 [])).out ((h0.getD (0) (Module.mk [] [] [] [])).funcs.getD v5.toNat (Func.mk ByteArray.empty false [] 0 [])).params ((h0.getD (0) (Module.mk [] [] [] [])).funcs.getD v5.toNat (Func.mk ByteArray.empty false [] 0 [])).result ((h0.getD (0) (Module.mk [] [] [] [])).funcs.getD v5.toNat (Func.mk ByteArray.empty false [] 0 [])).blocks)).length : Int) - 1) = false then
 if okF (Func.mk ((h0.getD (0) (Module.mk [] [] [] [])).funcs.getD v5.toNat (Func.mk ByteArray.empty false [] 0 [])).name ((h0.getD (0) (Module.mk [] [] [] [])).funcs.getD v5.toNat (Func.mk ByteArray.empty false [] 0 [])).out ((h0.getD (0) (Module.mk [] [] [] [])).funcs.getD v5.toNat (Func.mk ByteArray.empty false [] 0 [])).params ((h0.getD (0) (Module.mk [] [] [] [])).funcs.getD v5.toNat (Func.mk ByteArray.empty false [] 0 [])).result ((h0.getD (0) (Module.mk [] [] [] [])).funcs.getD v5.toNat (Func.mk ByteArray.empty false [] 0 [])).blocks) then
 if okF (Func.mk ((h0.getD (0) (Module.mk [] [] [] [])).funcs.getD v5.toNat (Func.mk ByteArray.empty false [] 0 [])).name ((h0.getD (0) (Module.mk [] [] [] [])).funcs.getD v5.toNat (Func.mk ByteArray.empty false [] 0 [])).out ((h0.getD (0) (Module.mk [] [] [] [])).funcs.getD v5.toNat (Func.mk ByteArray.empty false [] 0 [])).params ((h0.getD (0) (Module.mk [] [] [] [])).funcs.getD v5.toNat (Func.mk ByteArray.empty false [] 0 [])).result ((h0.getD (0) (Module.mk [] [] [] [])).funcs.getD v5.toNat (Func.mk ByteArray.empty false [] 0 [])).blocks) then
 if (typesOf (Func.mk ((h0.getD (0) (Module.mk [] [] [] [])).funcs.getD v5.toNat (Func.mk ByteArray.empty false [] 0 [])).name ((h0.getD (0) (Module.mk [] [] [] [])).funcs.getD v5.toNat (Func.mk ByteArray.empty false [] 0 [])).out ((h0.getD (0) (Module.mk [] [] [] [])).funcs.getD v5.toNat (Func.mk ByteArray.empty false [] 0 [])).params ((h0.getD (0) (Module.mk [] [] [] [])).funcs.getD v5.toNat (Func.mk ByteArray.empty false [] 0 [])).result ((h0.getD (0) (Module.mk [] [] [] [])).funcs.getD v5.toNat (Func.mk ByteArray.empty false [] 0 [])).blocks)).length ≤ 4611686018427387904 then
 if (!same3 (typesOf (Func.mk ((h0.getD (0) (Module.mk [] [] [] [])).funcs.getD v5.toNat (Func.mk ByteArray.empty false [] 0 [])).name ((h0.getD (0) (Module.mk [] [] [] [])).funcs.getD v5.toNat (Func.mk ByteArray.empty false [] 0 [])).out ((h0.getD (0) (Module.mk [] [] [] [])).funcs.getD v5.toNat (Func.mk ByteArray.empty false [] 0 [])).params ((h0.getD (0) (Module.mk [] [] [] [])).funcs.getD v5.toNat (Func.mk ByteArray.empty false [] 0 [])).result ((h0.getD (0) (Module.mk [] [] [] [])).funcs.getD v5.toNat (Func.mk ByteArray.empty false [] 0 [])).blocks)) (typesOf (Func.mk ((h0.getD (0) (Module.mk [] [] [] [])).funcs.getD v5.toNat (Func.mk ByteArray.empty false [] 0 [])).name ((h0.getD (0) (Module.mk [] [] [] [])).funcs.getD v5.toNat (Func.mk ByteArray.empty false [] 0 [])).out ((h0.getD (0) (Module.mk [] [] [] [])).funcs.getD v5.toNat (Func.mk ByteArray.empty false [] 0 [])).params ((h0.getD (0) (Module.mk [] [] [] [])).funcs.getD v5.toNat (Func.mk ByteArray.empty false [] 0 [])).result ((h0.getD (0) (Module.mk [] [] [] [])).funcs.getD v5.toNat (Func.mk ByteArray.empty false [] 0 [])).blocks))) = false then
 if okF (Func.mk ((h0.getD (0) (Module.mk [] [] [] [])).funcs.getD v5.toNat (Func.mk ByteArray.empty false [] 0 [])).name ((h0.getD (0) (Module.mk [] [] [] [])).funcs.getD v5.toNat (Func.mk ByteArray.empty false [] 0 [])).out ((h0.getD (0) (Module.mk [] [] [] [])).funcs.getD v5.toNat (Func.mk ByteArray.empty false [] 0 [])).params ((h0.getD (0) (Module.mk [] [] [] [])).funcs.getD v5.toNat (Func.mk ByteArray.empty false [] 0 [])).result ((h0.getD (0) (Module.mk [] [] [] [])).funcs.getD v5.toNat (Func.mk ByteArray.empty false [] 0 [])).blocks) then
 if okF (Func.mk ((h0.getD (0) (Module.mk [] [] [] [])).funcs.getD v5.toNat (Func.mk ByteArray.empty false [] 0 [])).name ((h0.getD (0) (Module.mk [] [] [] [])).funcs.getD v5.toNat (Func.mk ByteArray.empty false [] 0 [])).out ((h0.getD (0) (Module.mk [] [] [] [])).funcs.getD v5.toNat (Func.mk ByteArray.empty false [] 0 [])).params ((h0.getD (0) (Module.mk [] [] [] [])).funcs.getD v5.toNat (Func.mk ByteArray.empty false [] 0 [])).result ((h0.getD (0) (Module.mk [] [] [] [])).funcs.getD v5.toNat (Func.mk ByteArray.empty false [] 0 [])).blocks) then
 if (usesOf (Func.mk ((h0.getD (0) (Module.mk [] [] [] [])).funcs.getD v5.toNat (Func.mk ByteArray.empty false [] 0 [])).name ((h0.getD (0) (Module.mk [] [] [] [])).funcs.getD v5.toNat (Func.mk ByteArray.empty false [] 0 [])).out ((h0.getD (0) (Module.mk [] [] [] [])).funcs.getD v5.toNat (Func.mk ByteArray.empty false [] 0 [])).params ((h0.getD (0) (Module.mk [] [] [] [])).funcs.getD v5.toNat (Func.mk ByteArray.empty false [] 0 [])).result ((h0.getD (0) (Module.mk [] [] [] [])).funcs.getD v5.toNat (Func.mk ByteArray.empty false [] 0 [])).blocks)).length ≤ 4611686018427387904 then
 if (!same3 (usesOf (Func.mk ((h0.getD (0) (Module.mk [] [] [] [])).funcs.getD v5.toNat (Func.mk ByteArray.empty false [] 0 [])).name ((h0.getD (0) (Module.mk [] [] [] [])).funcs.getD v5.toNat (Func.mk ByteArray.empty false [] 0 [])).out ((h0.getD (0) (Module.mk [] [] [] [])).funcs.getD v5.toNat (Func.mk ByteArray.empty false [] 0 [])).params ((h0.getD (0) (Module.mk [] [] [] [])).funcs.getD v5.toNat (Func.mk ByteArray.empty false [] 0 [])).result ((h0.getD (0) (Module.mk [] [] [] [])).funcs.getD v5.toNat (Func.mk ByteArray.empty false [] 0 [])).blocks)) (usesOf (Func.mk ((h0.getD (0) (Module.mk [] [] [] [])).funcs.getD v5.toNat (Func.mk ByteArray.empty false [] 0 [])).name ((h0.getD (0) (Module.mk [] [] [] [])).funcs.getD v5.toNat (Func.mk ByteArray.empty false [] 0 [])).out ((h0.getD (0) (Module.mk [] [] [] [])).funcs.getD v5.toNat (Func.mk ByteArray.empty false [] 0 [])).params ((h0.getD (0) (Module.mk [] [] [] [])).funcs.getD v5.toNat (Func.mk ByteArray.empty false [] 0 [])).result ((h0.getD (0) (Module.mk [] [] [] [])).funcs.getD v5.toNat (Func.mk ByteArray.empty false [] 0 [])).blocks))) = false then
 if okF (Func.mk ((h0.getD (0) (Module.mk [] [] [] [])).funcs.getD v5.toNat (Func.mk ByteArray.empty false [] 0 [])).name ((h0.getD (0) (Module.mk [] [] [] [])).funcs.getD v5.toNat (Func.mk ByteArray.empty false [] 0 [])).out ((h0.getD (0) (Module.mk [] [] [] [])).funcs.getD v5.toNat (Func.mk ByteArray.empty false [] 0 [])).params ((h0.getD (0) (Module.mk [] [] [] [])).funcs.getD v5.toNat (Func.mk ByteArray.empty false [] 0 [])).result ((h0.getD (0) (Module.mk [] [] [] [])).funcs.getD v5.toNat (Func.mk ByteArray.empty false [] 0 [])).blocks) then
 if okF (Func.mk ((h0.getD (0) (Module.mk [] [] [] [])).funcs.getD v5.toNat (Func.mk ByteArray.empty false [] 0 [])).name ((h0.getD (0) (Module.mk [] [] [] [])).funcs.getD v5.toNat (Func.mk ByteArray.empty false [] 0 [])).out ((h0.getD (0) (Module.mk [] [] [] [])).funcs.getD v5.toNat (Func.mk ByteArray.empty false [] 0 [])).params ((h0.getD (0) (Module.mk [] [] [] [])).funcs.getD v5.toNat (Func.mk ByteArray.empty false [] 0 [])).result ((h0.getD (0) (Module.mk [] [] [] [])).funcs.getD v5.toNat (Func.mk ByteArray.empty false [] 0 [])).blocks) then
 if okF (Func.mk ((h0.getD (0) (Module.mk [] [] [] [])).funcs.getD v5.toNat (Func.mk ByteArray.empty false [] 0 [])).name ((h0.getD (0) (Module.mk [] [] [] [])).funcs.getD v5.toNat (Func.mk ByteArray.empty false [] 0 [])).out ((h0.getD (0) (Module.mk [] [] [] [])).funcs.getD v5.toNat (Func.mk ByteArray.empty false [] 0 [])).params ((h0.getD (0) (Module.mk [] [] [] [])).funcs.getD v5.toNat (Func.mk ByteArray.empty false [] 0 [])).result (neatB ((h0.getD (0) (Module.mk [] [] [] [])).funcs.getD v5.toNat (Func.mk ByteArray.empty false [] 0 [])).params.length ((h0.getD (0) (Module.mk [] [] [] [])).funcs.getD v5.toNat (Func.mk ByteArray.empty false [] 0 [])).blocks)) then
 if (!sameFun (Func.mk ((h0.getD (0) (Module.mk [] [] [] [])).funcs.getD v5.toNat (Func.mk ByteArray.empty false [] 0 [])).name ((h0.getD (0) (Module.mk [] [] [] [])).funcs.getD v5.toNat (Func.mk ByteArray.empty false [] 0 [])).out ((h0.getD (0) (Module.mk [] [] [] [])).funcs.getD v5.toNat (Func.mk ByteArray.empty false [] 0 [])).params ((h0.getD (0) (Module.mk [] [] [] [])).funcs.getD v5.toNat (Func.mk ByteArray.empty false [] 0 [])).result (neatB ((h0.getD (0) (Module.mk [] [] [] [])).funcs.getD v5.toNat (Func.mk ByteArray.empty false [] 0 [])).params.length ((h0.getD (0) (Module.mk [] [] [] [])).funcs.getD v5.toNat (Func.mk ByteArray.empty false [] 0 [])).blocks)) (Func.mk ((h0.getD (0) (Module.mk [] [] [] [])).funcs.getD v5.toNat (Func.mk ByteArray.empty false [] 0 [])).name ((h0.getD (0) (Module.mk [] [] [] [])).funcs.getD v5.toNat (Func.mk ByteArray.empty false [] 0 [])).out ((h0.getD (0) (Module.mk [] [] [] [])).funcs.getD v5.toNat (Func.mk ByteArray.empty false [] 0 [])).params ((h0.getD (0) (Module.mk [] [] [] [])).funcs.getD v5.toNat (Func.mk ByteArray.empty false [] 0 [])).result (neatB ((h0.getD (0) (Module.mk [] [] [] [])).funcs.getD v5.toNat (Func.mk ByteArray.empty false [] 0 [])).params.length ((h0.getD (0) (Module.mk [] [] [] [])).funcs.getD v5.toNat (Func.mk ByteArray.empty false [] 0 [])).blocks))) = true then
 some (.v (.bool false), [.dead, .dead])
 else
 J k12_l2 (s12_l2 m o v5 0 h0 h1 ([Func.mk ((h0.getD (0) (Module.mk [] [] [] [])).funcs.getD v5.toNat (Func.mk ByteArray.empty false [] 0 [])).name ((h0.getD (0) (Module.mk [] [] [] [])).funcs.getD v5.toNat (Func.mk ByteArray.empty false [] 0 [])).out ((h0.getD (0) (Module.mk [] [] [] [])).funcs.getD v5.toNat (Func.mk ByteArray.empty false [] 0 [])).params ((h0.getD (0) (Module.mk [] [] [] [])).funcs.getD v5.toNat (Func.mk ByteArray.empty false [] 0 [])).result ((h0.getD (0) (Module.mk [] [] [] [])).funcs.getD v5.toNat (Func.mk ByteArray.empty false [] 0 [])).blocks]))
 else none
 else none
 else none
 else
 some (.v (.bool false), [.dead, .dead])
 else none
 else none
 else none
 else
 some (.v (.bool false), [.dead, .dead])
 else none
 else none
 else none
 else
 some (.v (.bool false), [.dead, .dead])
 else none
 else none
 else
 some (.v (.bool false), [.dead, .dead])
 else none
 else none
 else none
 else none
 else
 J k12_j0 (s12_j0 m o) := by kernel_rfl
theorem e12_l2 (J m o v5 v7 h0 h1 h2) : run tb C12 U12 J (R12 m o) 4096 k12_l2 (s12_l2 m o v5 v7 h0 h1 h2) =
 if decide (v7 < (↑(h1.getD (0) (Module.mk [] [] [] [])).funcs.length : Int)) = true then
 if 0 ≤ v7 then
 if v7 < (↑(h1.getD (0) (Module.mk [] [] [] [])).funcs.length : Int) then
 if 0 ≤ v7 then
 if v7 < (↑(h1.getD (0) (Module.mk [] [] [] [])).funcs.length : Int) then
 if okF (Func.mk (h2.getD (0) (Func.mk ByteArray.empty false [] 0 [])).name (h2.getD (0) (Func.mk ByteArray.empty false [] 0 [])).out (h2.getD (0) (Func.mk ByteArray.empty false [] 0 [])).params (h2.getD (0) (Func.mk ByteArray.empty false [] 0 [])).result (h2.getD (0) (Func.mk ByteArray.empty false [] 0 [])).blocks) then
 if okF (Func.mk (h2.getD (0) (Func.mk ByteArray.empty false [] 0 [])).name (h2.getD (0) (Func.mk ByteArray.empty false [] 0 [])).out (h2.getD (0) (Func.mk ByteArray.empty false [] 0 [])).params (h2.getD (0) (Func.mk ByteArray.empty false [] 0 [])).result (h2.getD (0) (Func.mk ByteArray.empty false [] 0 [])).blocks) then
 if (!sameFun (Func.mk (h2.getD (0) (Func.mk ByteArray.empty false [] 0 [])).name (h2.getD (0) (Func.mk ByteArray.empty false [] 0 [])).out (h2.getD (0) (Func.mk ByteArray.empty false [] 0 [])).params (h2.getD (0) (Func.mk ByteArray.empty false [] 0 [])).result (h2.getD (0) (Func.mk ByteArray.empty false [] 0 [])).blocks) (Func.mk ((h1.getD (0) (Module.mk [] [] [] [])).funcs.getD v7.toNat (Func.mk ByteArray.empty false [] 0 [])).name ((h1.getD (0) (Module.mk [] [] [] [])).funcs.getD v7.toNat (Func.mk ByteArray.empty false [] 0 [])).out ((h1.getD (0) (Module.mk [] [] [] [])).funcs.getD v7.toNat (Func.mk ByteArray.empty false [] 0 [])).params ((h1.getD (0) (Module.mk [] [] [] [])).funcs.getD v7.toNat (Func.mk ByteArray.empty false [] 0 [])).result ((h1.getD (0) (Module.mk [] [] [] [])).funcs.getD v7.toNat (Func.mk ByteArray.empty false [] 0 [])).blocks) == sameFun (Func.mk (h2.getD (0) (Func.mk ByteArray.empty false [] 0 [])).name (h2.getD (0) (Func.mk ByteArray.empty false [] 0 [])).out (h2.getD (0) (Func.mk ByteArray.empty false [] 0 [])).params (h2.getD (0) (Func.mk ByteArray.empty false [] 0 [])).result (h2.getD (0) (Func.mk ByteArray.empty false [] 0 [])).blocks) (Func.mk ((h1.getD (0) (Module.mk [] [] [] [])).funcs.getD v7.toNat (Func.mk ByteArray.empty false [] 0 [])).name ((h1.getD (0) (Module.mk [] [] [] [])).funcs.getD v7.toNat (Func.mk ByteArray.empty false [] 0 [])).out ((h1.getD (0) (Module.mk [] [] [] [])).funcs.getD v7.toNat (Func.mk ByteArray.empty false [] 0 [])).params ((h1.getD (0) (Module.mk [] [] [] [])).funcs.getD v7.toNat (Func.mk ByteArray.empty false [] 0 [])).result ((h1.getD (0) (Module.mk [] [] [] [])).funcs.getD v7.toNat (Func.mk ByteArray.empty false [] 0 [])).blocks)) = true then
 some (.v (.bool false), [.dead, .dead])
 else
 J k12_l2 (s12_l2 m o v5 (IntKind.i64.wrap (v7 + 1)) h0 h1 h2)
 else none
 else none
 else none
 else none
 else none
 else none
 else
 J k12_j2 (s12_j2 m o v5 h0 h1) := by kernel_rfl
theorem e12_j0 (J m o) : run tb C12 U12 J (R12 m o) 4096 k12_j0 (s12_j0 m o) =
 some (.v (.bool true), [.dead, .dead]) := by kernel_rfl
theorem e12_j2 (J m o v5 h0 h1) : run tb C12 U12 J (R12 m o) 4096 k12_j2 (s12_j2 m o v5 h0 h1) =
 J k12_j1 (s12_j1 m o v5 h0 h1) := by kernel_rfl
theorem e12_j1 (J m o v5 h0 h1) : run tb C12 U12 J (R12 m o) 4096 k12_j1 (s12_j1 m o v5 h0 h1) =
 J k12_l0 (s12_l0 m o (IntKind.i64.wrap (v5 + 1)) h0 h1) := by kernel_rfl

theorem in12 : Entered 12 := ⟨Try.f12, b12, by kernel_rfl, by kernel_rfl, by kernel_rfl⟩
theorem fn12 (m o : Ev.Module) {res : AV Ty} {outs : List (AV Ty)} (h : Ends C12 U12 (R12 m o) [.code b12] ⟨slotsA (a12 m o) 0 0, heapA (a12 m o)⟩ (some (res, outs))) : CallOk tb Try.prog 12 (a12 m o) res outs := by
  obtain ⟨n0, hn⟩ := h
  exact fn_ok (C := C12) (U := U12) (n := 0 + n0) (q := .keep) tbOk good (fun f mu S h => by
    unfold C12 at h
    simp only at h
    split at h
    · cases h; exact ⟨in24, S24_ok⟩
    · cases h; exact ⟨in33, S33_ok⟩
    · cases h; exact ⟨in49, S49_ok⟩
    · cases h; exact ⟨in50, S50_ok⟩
    · cases h; exact ⟨in48, S48_ok⟩
    · cases h; exact ⟨in37, S37_ok⟩
    · cases h; exact ⟨in35, S35_ok⟩
    · cases h; exact ⟨in51, S51_ok⟩
    · cases h; exact ⟨in28, S28_ok⟩
    · cases h; exact ⟨in31, S31_ok⟩
    · cases h; exact ⟨in21, S21_ok⟩
    · cases h; exact ⟨in52, S52_ok⟩
    · cases h; exact ⟨in30, S30_ok⟩
    · cases h; exact ⟨in29, S29_ok⟩
    · cases h; exact ⟨in53, S53_ok⟩
    · cases h; exact ⟨in22, S22_ok⟩
    · cases h; exact ⟨in26, S26_ok⟩
    · cases h; exact ⟨in54, S54_ok⟩
    · cases h; exact ⟨in27, S27_ok⟩
    · cases h; exact ⟨in55, S55_ok⟩
    · cases h) mixed (fn := Try.f12) (body := b12) (by kernel_rfl) (by kernel_rfl) rfl rfl (by show 2 ≤ 116; omega) (hn 0)
section
variable {m o : Ev.Module}
theorem Tells.in {i k : Nat} (hf : okF (m.funcs.getD i (Func.mk ByteArray.empty false [] 0 []))) (hk : k < o.funcs.length) (hl : o.funcs.length ≤ 1000) : Goes C12 U12 (R12 m o) k12_l2 (s12_l2 m o i k [m] [o] [m.funcs.getD i (Func.mk ByteArray.empty false [] 0 [])]) k12_l2 (s12_l2 m o i (k + 1 : Nat) [m] [o] [m.funcs.getD i (Func.mk ByteArray.empty false [] 0 [])]) := .step fun J => by
  have e : (Func.mk (m.funcs.getD i (Func.mk ByteArray.empty false [] 0 [])).name (m.funcs.getD i (Func.mk ByteArray.empty false [] 0 [])).out (m.funcs.getD i (Func.mk ByteArray.empty false [] 0 [])).params (m.funcs.getD i (Func.mk ByteArray.empty false [] 0 [])).result (m.funcs.getD i (Func.mk ByteArray.empty false [] 0 [])).blocks) = m.funcs.getD i (Func.mk ByteArray.empty false [] 0 []) := rfl
  rw [e12_l2]
  simp only [Int.toNat_natCast, List.getD_cons_zero, e, beq_self_eq_true, Bool.not_true]
  simp (disch := first | omega | assumption | (rw [decide_eq_true_eq]; omega) | (rw [decide_eq_false_iff_not]; omega)) only [↓if_pos, ↓if_neg, if_true, if_false, wrap_up, Int.toNat_natCast, Nat.zero_add, Bool.false_eq_true]
  rfl
theorem Tells.out (h : okM m) (hl : o.funcs.length ≤ 1000) {i : Nat} (hi : i < m.funcs.length) : Goes C12 U12 (R12 m o) k12_l0 (s12_l0 m o i [m] [o]) k12_l0 (s12_l0 m o (i + 1 : Nat) [m] [o]) := by
  have hf := h.2.2.2.2 _ (getD_mem (d := (Func.mk ByteArray.empty false [] 0 [])) hi)
  have h4 := h.1.2.2.2
  have hg := neatF_ok hf
  have ht := hf.types
  have hu := usesOf_len (m.funcs.getD i (Func.mk ByteArray.empty false [] 0 []))
  have e : (Func.mk (m.funcs.getD i (Func.mk ByteArray.empty false [] 0 [])).name (m.funcs.getD i (Func.mk ByteArray.empty false [] 0 [])).out (m.funcs.getD i (Func.mk ByteArray.empty false [] 0 [])).params (m.funcs.getD i (Func.mk ByteArray.empty false [] 0 [])).result (m.funcs.getD i (Func.mk ByteArray.empty false [] 0 [])).blocks) = m.funcs.getD i (Func.mk ByteArray.empty false [] 0 []) := rfl
  have e' : (Func.mk (m.funcs.getD i (Func.mk ByteArray.empty false [] 0 [])).name (m.funcs.getD i (Func.mk ByteArray.empty false [] 0 [])).out (m.funcs.getD i (Func.mk ByteArray.empty false [] 0 [])).params (m.funcs.getD i (Func.mk ByteArray.empty false [] 0 [])).result (neatB (m.funcs.getD i (Func.mk ByteArray.empty false [] 0 [])).params.length (m.funcs.getD i (Func.mk ByteArray.empty false [] 0 [])).blocks)) = neatF (m.funcs.getD i (Func.mk ByteArray.empty false [] 0 [])) := rfl
  have s3 : ∀ l : List Int, same3 l l = true := fun l => decide_eq_true rfl
  have b1 : (typesOf (m.funcs.getD i (Func.mk ByteArray.empty false [] 0 []))).length ≤ 4611686018427387904 := by omega
  have b2 : (usesOf (m.funcs.getD i (Func.mk ByteArray.empty false [] 0 []))).length ≤ 4611686018427387904 := by omega
  refine Goes.trans (k' := k12_l2) (s' := s12_l2 m o i (0 : Nat) [m] [o] [m.funcs.getD i (Func.mk ByteArray.empty false [] 0 [])]) (.step fun J => ?_) (Goes.trans (Goes.upto (fun k => s12_l2 m o i k [m] [o] [m.funcs.getD i (Func.mk ByteArray.empty false [] 0 [])]) o.funcs.length (fun k hk => Tells.in hf hk hl) _ (Nat.le_refl _)) (Goes.trans (k' := k12_j2) (s' := s12_j2 m o i [m] [o]) (.step fun J => ?_) (Goes.trans (.step fun J => e12_j2 ..) (.step fun J => ?_))))
  · rw [e12_l0]
    simp only [Int.toNat_natCast, List.getD_cons_zero, e', e, bne_self_eq_false, s3, sameFun_self, Bool.not_true, if_pos hf, if_pos hg, if_pos b1, if_pos b2]
    simp (disch := first | omega | assumption | (rw [decide_eq_true_eq]; omega) | (rw [decide_eq_false_iff_not]; omega)) only [↓if_pos, ↓if_neg, if_true, if_false, wrap_up, Int.toNat_natCast, Nat.zero_add, Bool.false_eq_true]
    rfl
  · rw [e12_l2]
    simp only [List.getD_cons_zero]
    simp (disch := first | omega | assumption | (rw [decide_eq_true_eq]; omega) | (rw [decide_eq_false_iff_not]; omega)) only [↓if_pos, ↓if_neg, if_true, if_false, wrap_up, Int.toNat_natCast, Nat.zero_add]
  · rw [e12_j1, wrap_nat (n := i + 1) (by omega) (by omega)]
end
theorem tells3_ok (m o : Ev.Module) (hw : wideM m) (hw2 : wideM o) : CallOk tb Try.prog 12 (a12 m o) (.v (.bool true)) [.dead, .dead] := by
  have e1 : (⟨m.externs, m.globals, m.tables, m.funcs⟩ : Ev.Module) = m := rfl
  have e2 : (⟨o.externs, o.globals, o.tables, o.funcs⟩ : Ev.Module) = o := rfl
  by_cases h1 : smallM m
  · have b1 : smallB m = true := decide_eq_true h1
    have h := h1.ok
    by_cases h2 : smallM o
    · have b2 : smallB o = true := decide_eq_true h2
      have hl := h2.ok.1.2.2.2
      refine fn12 m o (Goes.ends (k' := k12_l0) (s' := s12_l0 m o (0 : Nat) [m] [o]) (.step fun J => ?_) (Goes.ends (Goes.upto (fun i => s12_l0 m o i [m] [o]) m.funcs.length (fun i hi => Tells.out h hl hi) _ (Nat.le_refl _)) (Goes.ends (k' := k12_j0) (s' := s12_j0 m o) (.step fun J => ?_) (.step fun J => e12_j0 ..))))
      · rw [e12]
        simp only [e1, e2, b1, b2, if_pos hw, if_pos hw2, if_pos h, bne_self_eq_false, beq_self_eq_true, sameMo_self, Bool.not_true, Bool.false_eq_true, if_true, if_false]
        rfl
      · rw [e12_l0]
        simp only [List.getD_cons_zero]
        simp (disch := first | omega | assumption | (rw [decide_eq_true_eq]; omega) | (rw [decide_eq_false_iff_not]; omega)) only [↓if_pos, ↓if_neg, if_true, if_false, wrap_up, Int.toNat_natCast, Nat.zero_add]
    · have b2 : smallB o = false := decide_eq_false h2
      refine fn12 m o (.step fun J => ?_)
      rw [e12]
      simp only [e1, e2, b1, b2, if_pos hw, if_pos hw2, Bool.not_true, Bool.not_false, if_true]
  · have b1 : smallB m = false := decide_eq_false h1
    refine fn12 m o (.step fun J => ?_)
    rw [e12]
    simp only [e1, e2, b1, if_pos hw, Bool.not_false, Bool.true_eq_false, if_false]
end Go.Proofs.Ytggibjbcbicpjaa.Ev
