/- The evaluator, what it gives of the functions that are called, and the plain law: part 5 of 6. -/
import Derived.Test.YtggibjbcbicpjaaTud
namespace Go.Proofs.Ytggibjbcbicpjaa.Ev
open Go
set_option linter.unusedVariables false
set_option linter.unusedSimpArgs false
def okM (m:Ev.Module):Prop:=(m.externs.length≤1000∧m.globals.length≤1000∧m.tables.length≤1000∧m.funcs.length≤1000)∧(∀x,x∈m.externs→x.params.length≤1000)∧(∀x,x∈m.globals→x.cells.length≤1000)∧(∀x,x∈m.tables→x.funcs.length≤1000)∧ ∀f,f∈m.funcs→okF f
instance okM.dec (m:Ev.Module):Decidable (okM m):=by unfold okM;infer_instance
theorem smallM.ok {m:Ev.Module} (h:smallM m):okM m:=by
 obtain ⟨⟨h1,h2,h3,h4⟩,h5,h6,h7,h8,_⟩:=h
 exact ⟨⟨by omega,by omega,by omega,by omega⟩,fun x hx=>by have:=(h5 x hx).2;omega,fun x hx=>by have:=(h6 x hx).2;omega,fun x hx=>by have:=(h7 x hx).2;omega,fun f hf=>(h8 f hf).ok⟩
noncomputable def b34:Code:=bodyOf Try.f34
noncomputable def C34:Cfg Ty:=⟨fun
 |32=>some ([],S32)
 |_=>none,fun
 |2=>true
 |3=>true
 |27=>true
 |31=>true
 |32=>true
 |55=>true
 |57=>true
 |58=>true
 |81=>true
 |83=>true
 |84=>true
 |101=>true
 |102=>true
 |400104=>true
 |_=>false,105,0⟩
def U34:Cuts:=⟨fun
 |0=>some [(1,none),(2,none),(3,none)]
 |2=>some [(1,none),(2,none),(3,none)]
 |4=>some [(1,none),(2,none),(3,none)]
 |6=>some [(2,none),(3,none)]
 |_=>none,fun
 |0=>some [(1,none),(2,none),(3,none),(4,none)]
 |2=>some [(1,none),(2,none),(3,none),(6,none)]
 |4=>some [(1,none),(2,none),(3,none),(7,none)]
 |6=>some [(1,none),(2,none),(3,none),(8,none)]
 |_=>none,fun
 |6=>some [0,1,2,3,4,5,7,8,6,9,10,11,12,13]
 |10=>some [0,1,2,3,4,5,6,7,8,9,10,11,12,13,14,15,16,17,18,19]
 |14=>some [0,1,2,3,4,5,6,7,8,9,10,11,12,13,14,15,16,17,18,19]
 |18=>some [0,1,2,3,4,5,6,7,8,9,10,11]
 |_=>none⟩
noncomputable def k34_j0:List Item:=[.code (sndC (sndC (sndC b34)))]
noncomputable def k34_l0:List Item:=[.code (inC (inC (sndC (fstC (sndC (sndC b34)))))), .inLoop (inC (inC (sndC (fstC (sndC (sndC b34)))))), .inBlock 0, .code (sndC (sndC (sndC b34)))]
noncomputable def k34_j2:List Item:=[.code (sndC (sndC (sndC (sndC b34))))]
noncomputable def k34_l2:List Item:=[.code (inC (inC (sndC (fstC (sndC (sndC (sndC b34))))))), .inLoop (inC (inC (sndC (fstC (sndC (sndC (sndC b34))))))), .inBlock 2, .code (sndC (sndC (sndC (sndC b34))))]
noncomputable def k34_j4:List Item:=[.code (sndC (sndC (sndC (sndC (sndC b34)))))]
noncomputable def k34_l4:List Item:=[.code (inC (inC (sndC (fstC (sndC (sndC (sndC (sndC b34)))))))), .inLoop (inC (inC (sndC (fstC (sndC (sndC (sndC (sndC b34)))))))), .inBlock 4, .code (sndC (sndC (sndC (sndC (sndC b34)))))]
noncomputable def k34_j6:List Item:=[.code (sndC (sndC (sndC (sndC (sndC (sndC b34))))))]
noncomputable def k34_l6:List Item:=[.code (inC (inC (sndC (fstC (sndC (sndC (sndC (sndC (sndC b34))))))))), .inLoop (inC (inC (sndC (fstC (sndC (sndC (sndC (sndC (sndC b34))))))))), .inBlock 6, .code (sndC (sndC (sndC (sndC (sndC (sndC b34))))))]
def a34 (m:Module):List (AV Ty):=[.agg [.sl false (91:Nat) m.externs, .sl false (94:Nat) m.globals, .sl false (96:Nat) m.tables, .sl false (33:Nat) m.funcs]]
noncomputable def R34 (m:Module):St Ty→EvR:=resT tb C34 Try.f34.results.toList .keep (a34 m)
def s34_l0 (m:Module) (v4:Int) (h0:List Module) (h1:List Extern) (h1_1:List Global) (h1_2:List Table) (h1_3:List Func) (h2:List Extern) (h2_1:List Global) (h2_2:List Table) (h2_3:List Func):St Ty:=St.mk [(1, .ptr (0) [] (0) (0)),(2, .ptr (1) [] (0) (0)),(3, .ptr (2) [] (0) (0)),(4, .v (.int .i64 v4))] [some (Root.mk (27) false h0),some (Root.mk (27) true [Module.mk h1 h1_1 h1_2 h1_3]),some (Root.mk (27) true [Module.mk h2 h2_1 h2_2 h2_3])]
def s34_j0 (m:Module) (h0:List Module) (h1:List Extern) (h1_1:List Global) (h1_2:List Table) (h1_3:List Func) (h2:List Extern) (h2_1:List Global) (h2_2:List Table) (h2_3:List Func):St Ty:=St.mk [(1, .ptr (0) [] (0) (0)),(2, .ptr (1) [] (0) (0)),(3, .ptr (2) [] (0) (0))] [some (Root.mk (27) false h0),some (Root.mk (27) true [Module.mk h1 h1_1 h1_2 h1_3]),some (Root.mk (27) true [Module.mk h2 h2_1 h2_2 h2_3])]
def s34_l2 (m:Module) (v6:Int) (h0:List Module) (h1:List Extern) (h1_1:List Global) (h1_2:List Table) (h1_3:List Func) (h2:List Extern) (h2_1:List Global) (h2_2:List Table) (h2_3:List Func):St Ty:=St.mk [(1, .ptr (0) [] (0) (0)),(2, .ptr (1) [] (0) (0)),(3, .ptr (2) [] (0) (0)),(6, .v (.int .i64 v6))] [some (Root.mk (27) false h0),some (Root.mk (27) true [Module.mk h1 h1_1 h1_2 h1_3]),some (Root.mk (27) true [Module.mk h2 h2_1 h2_2 h2_3])]
def s34_j2 (m:Module) (h0:List Module) (h1:List Extern) (h1_1:List Global) (h1_2:List Table) (h1_3:List Func) (h2:List Extern) (h2_1:List Global) (h2_2:List Table) (h2_3:List Func):St Ty:=St.mk [(1, .ptr (0) [] (0) (0)),(2, .ptr (1) [] (0) (0)),(3, .ptr (2) [] (0) (0))] [some (Root.mk (27) false h0),some (Root.mk (27) true [Module.mk h1 h1_1 h1_2 h1_3]),some (Root.mk (27) true [Module.mk h2 h2_1 h2_2 h2_3])]
def s34_l4 (m:Module) (v7:Int) (h0:List Module) (h1:List Extern) (h1_1:List Global) (h1_2:List Table) (h1_3:List Func) (h2:List Extern) (h2_1:List Global) (h2_2:List Table) (h2_3:List Func):St Ty:=St.mk [(1, .ptr (0) [] (0) (0)),(2, .ptr (1) [] (0) (0)),(3, .ptr (2) [] (0) (0)),(7, .v (.int .i64 v7))] [some (Root.mk (27) false h0),some (Root.mk (27) true [Module.mk h1 h1_1 h1_2 h1_3]),some (Root.mk (27) true [Module.mk h2 h2_1 h2_2 h2_3])]
def s34_j4 (m:Module) (h0:List Module) (h1:List Extern) (h1_1:List Global) (h1_2:List Table) (h1_3:List Func) (h2:List Extern) (h2_1:List Global) (h2_2:List Table) (h2_3:List Func):St Ty:=St.mk [(1, .ptr (0) [] (0) (0)),(2, .ptr (1) [] (0) (0)),(3, .ptr (2) [] (0) (0))] [some (Root.mk (27) false h0),some (Root.mk (27) true [Module.mk h1 h1_1 h1_2 h1_3]),some (Root.mk (27) true [Module.mk h2 h2_1 h2_2 h2_3])]
def s34_l6 (m:Module) (v8:Int) (h0:List Module) (h1:List Extern) (h1_1:List Global) (h1_2:List Table) (h1_3:List Func) (h2:List Extern) (h2_1:List Global) (h2_2:List Table) (h2_3:List Func):St Ty:=St.mk [(1, .ptr (0) [] (0) (0)),(2, .ptr (1) [] (0) (0)),(3, .ptr (2) [] (0) (0)),(8, .v (.int .i64 v8))] [some (Root.mk (27) false h0),some (Root.mk (27) true [Module.mk h1 h1_1 h1_2 h1_3]),some (Root.mk (27) true [Module.mk h2 h2_1 h2_2 h2_3])]
def s34_j6 (m:Module) (h0:List Extern) (h0_1:List Global) (h0_2:List Table) (h0_3:List Func) (h1:List Extern) (h1_1:List Global) (h1_2:List Table) (h1_3:List Func):St Ty:=St.mk [(2, .ptr (0) [] (0) (0)),(3, .ptr (1) [] (0) (0))] [some (Root.mk (27) true [Module.mk h0 h0_1 h0_2 h0_3]),some (Root.mk (27) true [Module.mk h1 h1_1 h1_2 h1_3])]
theorem e34 (J m):run tb C34 U34 J (R34 m) 4096 [.code b34] ⟨slotsA (a34 m) 0 0,heapA (a34 m)⟩=
 J k34_l0 (s34_l0 m 0 ([Module.mk m.externs m.globals m.tables m.funcs]) ([]) ([]) ([]) ([]) ([]) ([]) ([]) ([])):=by kernel_rfl
theorem e34_l0 (J m v4 h0 h1 h1_1 h1_2 h1_3 h2 h2_1 h2_2 h2_3):run tb C34 U34 J (R34 m) 4096 k34_l0 (s34_l0 m v4 h0 h1 h1_1 h1_2 h1_3 h2 h2_1 h2_2 h2_3)=
 if decide (v4<(↑(h0.getD (0) (Module.mk [] [] [] [])).externs.length:Int))=true then
 if 0≤v4 then
 if v4<(↑(h0.getD (0) (Module.mk [] [] [] [])).externs.length:Int) then
 if ((h0.getD (0) (Module.mk [] [] [] [])).externs.getD v4.toNat (Extern.mk ByteArray.empty [] 0)).params.length+1≤549755813888∧(((h0.getD (0) (Module.mk [] [] [] [])).externs.getD v4.toNat (Extern.mk ByteArray.empty [] 0)).params.length+1)*8≤549755813888 then
 if h2.length+[Extern.mk ((h0.getD (0) (Module.mk [] [] [] [])).externs.getD v4.toNat (Extern.mk ByteArray.empty [] 0)).name ((h0.getD (0) (Module.mk [] [] [] [])).externs.getD v4.toNat (Extern.mk ByteArray.empty [] 0)).params ((h0.getD (0) (Module.mk [] [] [] [])).externs.getD v4.toNat (Extern.mk ByteArray.empty [] 0)).result].length+1≤549755813888∧(h2.length+[Extern.mk ((h0.getD (0) (Module.mk [] [] [] [])).externs.getD v4.toNat (Extern.mk ByteArray.empty [] 0)).name ((h0.getD (0) (Module.mk [] [] [] [])).externs.getD v4.toNat (Extern.mk ByteArray.empty [] 0)).params ((h0.getD (0) (Module.mk [] [] [] [])).externs.getD v4.toNat (Extern.mk ByteArray.empty [] 0)).result].length+1)*48≤549755813888 then
 J k34_l0 (s34_l0 m (IntKind.i64.wrap (v4+1)) h0 h1 h1_1 h1_2 h1_3 (h2++[Extern.mk ((h0.getD (0) (Module.mk [] [] [] [])).externs.getD v4.toNat (Extern.mk ByteArray.empty [] 0)).name ((h0.getD (0) (Module.mk [] [] [] [])).externs.getD v4.toNat (Extern.mk ByteArray.empty [] 0)).params ((h0.getD (0) (Module.mk [] [] [] [])).externs.getD v4.toNat (Extern.mk ByteArray.empty [] 0)).result]) h2_1 h2_2 h2_3)
 else none
 else none
 else none
 else none
 else
 J k34_j0 (s34_j0 m h0 h1 h1_1 h1_2 h1_3 h2 h2_1 h2_2 h2_3):=by kernel_rfl
theorem e34_j0 (J m h0 h1 h1_1 h1_2 h1_3 h2 h2_1 h2_2 h2_3):run tb C34 U34 J (R34 m) 4096 k34_j0 (s34_j0 m h0 h1 h1_1 h1_2 h1_3 h2 h2_1 h2_2 h2_3)=
 J k34_l2 (s34_l2 m 0 h0 h1 h1_1 h1_2 h1_3 h2 h2_1 h2_2 h2_3):=by kernel_rfl
theorem e34_l2 (J m v6 h0 h1 h1_1 h1_2 h1_3 h2 h2_1 h2_2 h2_3):run tb C34 U34 J (R34 m) 4096 k34_l2 (s34_l2 m v6 h0 h1 h1_1 h1_2 h1_3 h2 h2_1 h2_2 h2_3)=
 if decide (v6<(↑(h0.getD (0) (Module.mk [] [] [] [])).globals.length:Int))=true then
 if 0≤v6 then
 if v6<(↑(h0.getD (0) (Module.mk [] [] [] [])).globals.length:Int) then
 if 0≤v6 then
 if v6<(↑(h0.getD (0) (Module.mk [] [] [] [])).globals.length:Int) then
 if ((h0.getD (0) (Module.mk [] [] [] [])).globals.getD v6.toNat (Global.mk ByteArray.empty [])).cells.length+1≤549755813888∧(((h0.getD (0) (Module.mk [] [] [] [])).globals.getD v6.toNat (Global.mk ByteArray.empty [])).cells.length+1)*8≤549755813888 then
 if h2_1.length+[Global.mk ((h0.getD (0) (Module.mk [] [] [] [])).globals.getD v6.toNat (Global.mk ByteArray.empty [])).name ((h0.getD (0) (Module.mk [] [] [] [])).globals.getD v6.toNat (Global.mk ByteArray.empty [])).cells].length+1≤549755813888∧(h2_1.length+[Global.mk ((h0.getD (0) (Module.mk [] [] [] [])).globals.getD v6.toNat (Global.mk ByteArray.empty [])).name ((h0.getD (0) (Module.mk [] [] [] [])).globals.getD v6.toNat (Global.mk ByteArray.empty [])).cells].length+1)*40≤549755813888 then
 J k34_l2 (s34_l2 m (IntKind.i64.wrap (v6+1)) h0 h1 h1_1 h1_2 h1_3 h2 (h2_1++[Global.mk ((h0.getD (0) (Module.mk [] [] [] [])).globals.getD v6.toNat (Global.mk ByteArray.empty [])).name ((h0.getD (0) (Module.mk [] [] [] [])).globals.getD v6.toNat (Global.mk ByteArray.empty [])).cells]) h2_2 h2_3)
 else none
 else none
 else none
 else none
 else none
 else none
 else
 J k34_j2 (s34_j2 m h0 h1 h1_1 h1_2 h1_3 h2 h2_1 h2_2 h2_3):=by kernel_rfl
theorem e34_j2 (J m h0 h1 h1_1 h1_2 h1_3 h2 h2_1 h2_2 h2_3):run tb C34 U34 J (R34 m) 4096 k34_j2 (s34_j2 m h0 h1 h1_1 h1_2 h1_3 h2 h2_1 h2_2 h2_3)=
 J k34_l4 (s34_l4 m 0 h0 h1 h1_1 h1_2 h1_3 h2 h2_1 h2_2 h2_3):=by kernel_rfl
theorem e34_l4 (J m v7 h0 h1 h1_1 h1_2 h1_3 h2 h2_1 h2_2 h2_3):run tb C34 U34 J (R34 m) 4096 k34_l4 (s34_l4 m v7 h0 h1 h1_1 h1_2 h1_3 h2 h2_1 h2_2 h2_3)=
 if decide (v7<(↑(h0.getD (0) (Module.mk [] [] [] [])).tables.length:Int))=true then
 if 0≤v7 then
 if v7<(↑(h0.getD (0) (Module.mk [] [] [] [])).tables.length:Int) then
 if 0≤v7 then
 if v7<(↑(h0.getD (0) (Module.mk [] [] [] [])).tables.length:Int) then
 if ((h0.getD (0) (Module.mk [] [] [] [])).tables.getD v7.toNat (Table.mk ByteArray.empty [])).funcs.length+1≤549755813888∧(((h0.getD (0) (Module.mk [] [] [] [])).tables.getD v7.toNat (Table.mk ByteArray.empty [])).funcs.length+1)*8≤549755813888 then
 if h2_2.length+[Table.mk ((h0.getD (0) (Module.mk [] [] [] [])).tables.getD v7.toNat (Table.mk ByteArray.empty [])).name ((h0.getD (0) (Module.mk [] [] [] [])).tables.getD v7.toNat (Table.mk ByteArray.empty [])).funcs].length+1≤549755813888∧(h2_2.length+[Table.mk ((h0.getD (0) (Module.mk [] [] [] [])).tables.getD v7.toNat (Table.mk ByteArray.empty [])).name ((h0.getD (0) (Module.mk [] [] [] [])).tables.getD v7.toNat (Table.mk ByteArray.empty [])).funcs].length+1)*40≤549755813888 then
 J k34_l4 (s34_l4 m (IntKind.i64.wrap (v7+1)) h0 h1 h1_1 h1_2 h1_3 h2 h2_1 (h2_2++[Table.mk ((h0.getD (0) (Module.mk [] [] [] [])).tables.getD v7.toNat (Table.mk ByteArray.empty [])).name ((h0.getD (0) (Module.mk [] [] [] [])).tables.getD v7.toNat (Table.mk ByteArray.empty [])).funcs]) h2_3)
 else none
 else none
 else none
 else none
 else none
 else none
 else
 J k34_j4 (s34_j4 m h0 h1 h1_1 h1_2 h1_3 h2 h2_1 h2_2 h2_3):=by kernel_rfl
theorem e34_j4 (J m h0 h1 h1_1 h1_2 h1_3 h2 h2_1 h2_2 h2_3):run tb C34 U34 J (R34 m) 4096 k34_j4 (s34_j4 m h0 h1 h1_1 h1_2 h1_3 h2 h2_1 h2_2 h2_3)=
 J k34_l6 (s34_l6 m 0 h0 h1 h1_1 h1_2 h1_3 h2 h2_1 h2_2 h2_3):=by kernel_rfl
theorem e34_l6 (J m v8 h0 h1 h1_1 h1_2 h1_3 h2 h2_1 h2_2 h2_3):run tb C34 U34 J (R34 m) 4096 k34_l6 (s34_l6 m v8 h0 h1 h1_1 h1_2 h1_3 h2 h2_1 h2_2 h2_3)=
 if decide (v8<(↑(h0.getD (0) (Module.mk [] [] [] [])).funcs.length:Int))=true then
 if 0≤v8 then
 if v8<(↑(h0.getD (0) (Module.mk [] [] [] [])).funcs.length:Int) then
 if okF (Func.mk ((h0.getD (0) (Module.mk [] [] [] [])).funcs.getD v8.toNat (Func.mk ByteArray.empty false [] 0 [])).name ((h0.getD (0) (Module.mk [] [] [] [])).funcs.getD v8.toNat (Func.mk ByteArray.empty false [] 0 [])).out ((h0.getD (0) (Module.mk [] [] [] [])).funcs.getD v8.toNat (Func.mk ByteArray.empty false [] 0 [])).params ((h0.getD (0) (Module.mk [] [] [] [])).funcs.getD v8.toNat (Func.mk ByteArray.empty false [] 0 [])).result ((h0.getD (0) (Module.mk [] [] [] [])).funcs.getD v8.toNat (Func.mk ByteArray.empty false [] 0 [])).blocks) then
 if h2_3.length+[Func.mk ((h0.getD (0) (Module.mk [] [] [] [])).funcs.getD v8.toNat (Func.mk ByteArray.empty false [] 0 [])).name ((h0.getD (0) (Module.mk [] [] [] [])).funcs.getD v8.toNat (Func.mk ByteArray.empty false [] 0 [])).out ((h0.getD (0) (Module.mk [] [] [] [])).funcs.getD v8.toNat (Func.mk ByteArray.empty false [] 0 [])).params ((h0.getD (0) (Module.mk [] [] [] [])).funcs.getD v8.toNat (Func.mk ByteArray.empty false [] 0 [])).result ((h0.getD (0) (Module.mk [] [] [] [])).funcs.getD v8.toNat (Func.mk ByteArray.empty false [] 0 [])).blocks].length+1≤549755813888∧(h2_3.length+[Func.mk ((h0.getD (0) (Module.mk [] [] [] [])).funcs.getD v8.toNat (Func.mk ByteArray.empty false [] 0 [])).name ((h0.getD (0) (Module.mk [] [] [] [])).funcs.getD v8.toNat (Func.mk ByteArray.empty false [] 0 [])).out ((h0.getD (0) (Module.mk [] [] [] [])).funcs.getD v8.toNat (Func.mk ByteArray.empty false [] 0 [])).params ((h0.getD (0) (Module.mk [] [] [] [])).funcs.getD v8.toNat (Func.mk ByteArray.empty false [] 0 [])).result ((h0.getD (0) (Module.mk [] [] [] [])).funcs.getD v8.toNat (Func.mk ByteArray.empty false [] 0 [])).blocks].length+1)*80≤549755813888 then
 J k34_l6 (s34_l6 m (IntKind.i64.wrap (v8+1)) h0 h1 h1_1 h1_2 h1_3 h2 h2_1 h2_2 (h2_3++[Func.mk ((h0.getD (0) (Module.mk [] [] [] [])).funcs.getD v8.toNat (Func.mk ByteArray.empty false [] 0 [])).name ((h0.getD (0) (Module.mk [] [] [] [])).funcs.getD v8.toNat (Func.mk ByteArray.empty false [] 0 [])).out ((h0.getD (0) (Module.mk [] [] [] [])).funcs.getD v8.toNat (Func.mk ByteArray.empty false [] 0 [])).params ((h0.getD (0) (Module.mk [] [] [] [])).funcs.getD v8.toNat (Func.mk ByteArray.empty false [] 0 [])).result ((h0.getD (0) (Module.mk [] [] [] [])).funcs.getD v8.toNat (Func.mk ByteArray.empty false [] 0 [])).blocks]))
 else none
 else none
 else none
 else none
 else
 J k34_j6 (s34_j6 m h1 h1_1 h1_2 h1_3 h2 h2_1 h2_2 h2_3):=by kernel_rfl
theorem e34_j6 (J m h0 h0_1 h0_2 h0_3 h1 h1_1 h1_2 h1_3):run tb C34 U34 J (R34 m) 4096 k34_j6 (s34_j6 m h0 h0_1 h0_2 h0_3 h1 h1_1 h1_2 h1_3)=
 some (.agg [.sl true 91 h1, .sl true 94 h1_1, .sl true 96 h1_2, .sl true 33 h1_3],[.dead]):=by kernel_rfl

theorem in34:Entered 34:=⟨Try.f34,b34,by kernel_rfl,by kernel_rfl,by kernel_rfl⟩
theorem fn34 (m:Ev.Module) {res:AV Ty} {outs:List (AV Ty)} (h:Ends C34 U34 (R34 m) [.code b34] ⟨slotsA (a34 m) 0 0,heapA (a34 m)⟩ (some (res,outs))):CallOk tb Try.prog 34 (a34 m) res outs:=by
 obtain ⟨n0,hn⟩:=h
 exact fn_ok (C:=C34) (U:=U34) (n:=0+n0) (q:= .keep) tbOk good (fun f mu S h=>by
  unfold C34 at h
  simp only at h
  split at h
  ·cases h;exact ⟨in32,S32_ok⟩
  ·cases h) mixed (fn:=Try.f34) (body:=b34) (by kernel_rfl) (by kernel_rfl) rfl rfl (by show 1≤105;omega) (hn 0)
section
variable {m:Ev.Module}
theorem RefCopy.l0 (h:okM m) {i:Nat} (hi:i<m.externs.length):Goes C34 U34 (R34 m) k34_l0 (s34_l0 m i [m] [] [] [] [] (m.externs.take i) [] [] []) k34_l0 (s34_l0 m (i+1:Nat) [m] [] [] [] [] (m.externs.take (i+1:Nat)) [] [] []):= .step fun J=>by
 have e:Extern.mk (m.externs.getD i (Extern.mk ByteArray.empty [] 0)).name (m.externs.getD i (Extern.mk ByteArray.empty [] 0)).params (m.externs.getD i (Extern.mk ByteArray.empty [] 0)).result=m.externs.getD i (Extern.mk ByteArray.empty [] 0):=rfl
 obtain ⟨⟨a1,a2,a3,a4⟩,h1,h2,h3,h4⟩:=h
 have h5:(m.externs.take i).length≤1000:=by rw [List.length_take];omega
 have h6:=h1 _ (getD_mem (d:=(Extern.mk ByteArray.empty [] 0)) hi)
 rw [e34_l0,take_step (d:=(Extern.mk ByteArray.empty [] 0)) hi]
 simp only [Int.toNat_natCast,List.getD_cons_zero]
 rw [e]
 simp (disch:=first|omega|assumption|(rw [dT];omega)|(rw [dF];omega)) only [↓iP,↓iN,iT,iF,wrap_up,tN,Nat.zero_add,List.length_singleton]
 rfl
theorem RefCopy.l2 (h:okM m) {i:Nat} (hi:i<m.globals.length):Goes C34 U34 (R34 m) k34_l2 (s34_l2 m i [m] [] [] [] [] m.externs (m.globals.take i) [] []) k34_l2 (s34_l2 m (i+1:Nat) [m] [] [] [] [] m.externs (m.globals.take (i+1:Nat)) [] []):= .step fun J=>by
 have e:Global.mk (m.globals.getD i (Global.mk ByteArray.empty [])).name (m.globals.getD i (Global.mk ByteArray.empty [])).cells=m.globals.getD i (Global.mk ByteArray.empty []):=rfl
 obtain ⟨⟨a1,a2,a3,a4⟩,h1,h2,h3,h4⟩:=h
 have h5:(m.globals.take i).length≤1000:=by rw [List.length_take];omega
 have h6:=h2 _ (getD_mem (d:=(Global.mk ByteArray.empty [])) hi)
 rw [e34_l2,take_step (d:=(Global.mk ByteArray.empty [])) hi]
 simp only [Int.toNat_natCast,List.getD_cons_zero]
 rw [e]
 simp (disch:=first|omega|assumption|(rw [dT];omega)|(rw [dF];omega)) only [↓iP,↓iN,iT,iF,wrap_up,tN,Nat.zero_add,List.length_singleton]
 rfl
theorem RefCopy.l4 (h:okM m) {i:Nat} (hi:i<m.tables.length):Goes C34 U34 (R34 m) k34_l4 (s34_l4 m i [m] [] [] [] [] m.externs m.globals (m.tables.take i) []) k34_l4 (s34_l4 m (i+1:Nat) [m] [] [] [] [] m.externs m.globals (m.tables.take (i+1:Nat)) []):= .step fun J=>by
 have e:Table.mk (m.tables.getD i (Table.mk ByteArray.empty [])).name (m.tables.getD i (Table.mk ByteArray.empty [])).funcs=m.tables.getD i (Table.mk ByteArray.empty []):=rfl
 obtain ⟨⟨a1,a2,a3,a4⟩,h1,h2,h3,h4⟩:=h
 have h5:(m.tables.take i).length≤1000:=by rw [List.length_take];omega
 have h6:=h3 _ (getD_mem (d:=(Table.mk ByteArray.empty [])) hi)
 rw [e34_l4,take_step (d:=(Table.mk ByteArray.empty [])) hi]
 simp only [Int.toNat_natCast,List.getD_cons_zero]
 rw [e]
 simp (disch:=first|omega|assumption|(rw [dT];omega)|(rw [dF];omega)) only [↓iP,↓iN,iT,iF,wrap_up,tN,Nat.zero_add,List.length_singleton]
 rfl
theorem RefCopy.l6 (h:okM m) {i:Nat} (hi:i<m.funcs.length):Goes C34 U34 (R34 m) k34_l6 (s34_l6 m i [m] [] [] [] [] m.externs m.globals m.tables (m.funcs.take i)) k34_l6 (s34_l6 m (i+1:Nat) [m] [] [] [] [] m.externs m.globals m.tables (m.funcs.take (i+1:Nat))):= .step fun J=>by
 have e:Func.mk (m.funcs.getD i (Func.mk ByteArray.empty false [] 0 [])).name (m.funcs.getD i (Func.mk ByteArray.empty false [] 0 [])).out (m.funcs.getD i (Func.mk ByteArray.empty false [] 0 [])).params (m.funcs.getD i (Func.mk ByteArray.empty false [] 0 [])).result (m.funcs.getD i (Func.mk ByteArray.empty false [] 0 [])).blocks=m.funcs.getD i (Func.mk ByteArray.empty false [] 0 []):=rfl
 obtain ⟨⟨a1,a2,a3,a4⟩,h1,h2,h3,h4⟩:=h
 have h5:(m.funcs.take i).length≤1000:=by rw [List.length_take];omega
 have h6:=h4 _ (getD_mem (d:=(Func.mk ByteArray.empty false [] 0 [])) hi)
 rw [e34_l6,take_step (d:=(Func.mk ByteArray.empty false [] 0 [])) hi]
 simp only [Int.toNat_natCast,List.getD_cons_zero]
 rw [e]
 simp (disch:=first|omega|assumption|(rw [dT];omega)|(rw [dF];omega)) only [↓iP,↓iN,iT,iF,wrap_up,tN,Nat.zero_add,List.length_singleton]
 rfl
end
theorem refCopy_ok (m:Ev.Module) (h:okM m):CallOk tb Try.prog 34 (a34 m) (.agg [.sl true 91 m.externs, .sl true 94 m.globals, .sl true 96 m.tables, .sl true 33 m.funcs]) [.dead]:=by
 have h0:=h
 obtain ⟨⟨a1,a2,a3,a4⟩,h1,h2,h3,h4⟩:=h0
 refine fn34 m (Goes.ends (k':=k34_l0) (s':=s34_l0 m (0:Nat) [m] [] [] [] [] (m.externs.take (0:Nat)) [] [] []) (.step fun J=> ?_) ?_)
 ·rw [e34]
  rfl
 refine Goes.ends (Goes.upto (fun i=>s34_l0 m i [m] [] [] [] [] (m.externs.take i) [] [] []) m.externs.length (fun i hi=>RefCopy.l0 h hi) _ (Nat.le_refl _)) ?_
 refine Goes.ends (k':=k34_j0) (s':=s34_j0 m [m] [] [] [] [] m.externs [] [] []) (.step fun J=> ?_) (Goes.ends (k':=k34_l2) (s':=s34_l2 m (0:Nat) [m] [] [] [] [] m.externs (m.globals.take (0:Nat)) [] []) (.step fun J=> ?_) ?_)
 ·rw [e34_l0]
  try simp only [List.getD_cons_zero]
  simp (disch:=first|omega|assumption|(rw [dT];omega)|(rw [dF];omega)) only [↓iP,↓iN,iT,iF,wrap_up,tN,Nat.zero_add,List.take_length]
 ·rw [e34_j0]
  rfl
 refine Goes.ends (Goes.upto (fun i=>s34_l2 m i [m] [] [] [] [] m.externs (m.globals.take i) [] []) m.globals.length (fun i hi=>RefCopy.l2 h hi) _ (Nat.le_refl _)) ?_
 refine Goes.ends (k':=k34_j2) (s':=s34_j2 m [m] [] [] [] [] m.externs m.globals [] []) (.step fun J=> ?_) (Goes.ends (k':=k34_l4) (s':=s34_l4 m (0:Nat) [m] [] [] [] [] m.externs m.globals (m.tables.take (0:Nat)) []) (.step fun J=> ?_) ?_)
 ·rw [e34_l2]
  try simp only [List.getD_cons_zero]
  simp (disch:=first|omega|assumption|(rw [dT];omega)|(rw [dF];omega)) only [↓iP,↓iN,iT,iF,wrap_up,tN,Nat.zero_add,List.take_length]
 ·rw [e34_j2]
  rfl
 refine Goes.ends (Goes.upto (fun i=>s34_l4 m i [m] [] [] [] [] m.externs m.globals (m.tables.take i) []) m.tables.length (fun i hi=>RefCopy.l4 h hi) _ (Nat.le_refl _)) ?_
 refine Goes.ends (k':=k34_j4) (s':=s34_j4 m [m] [] [] [] [] m.externs m.globals m.tables []) (.step fun J=> ?_) (Goes.ends (k':=k34_l6) (s':=s34_l6 m (0:Nat) [m] [] [] [] [] m.externs m.globals m.tables (m.funcs.take (0:Nat))) (.step fun J=> ?_) ?_)
 ·rw [e34_l4]
  try simp only [List.getD_cons_zero]
  simp (disch:=first|omega|assumption|(rw [dT];omega)|(rw [dF];omega)) only [↓iP,↓iN,iT,iF,wrap_up,tN,Nat.zero_add,List.take_length]
 ·rw [e34_j4]
  rfl
 refine Goes.ends (Goes.upto (fun i=>s34_l6 m i [m] [] [] [] [] m.externs m.globals m.tables (m.funcs.take i)) m.funcs.length (fun i hi=>RefCopy.l6 h hi) _ (Nat.le_refl _)) ?_
 refine Goes.ends (k':=k34_j6) (s':=s34_j6 m [] [] [] [] m.externs m.globals m.tables m.funcs) (.step fun J=> ?_) (.step fun J=>e34_j6 ..)
 rw [e34_l6]
 try simp only [List.getD_cons_zero]
 simp (disch:=first|omega|assumption|(rw [dT];omega)|(rw [dF];omega)) only [↓iP,↓iN,iT,iF,wrap_up,tN,Nat.zero_add,List.take_length]
def S34:List (AV Ty)→T (AV Ty×List (AV Ty))
 |[.agg x]=>match cod27.dec false x with
  |some m=> .ite (okM m) (okM.dec m) (.ret (.agg [.sl true 91 m.externs, .sl true 94 m.globals, .sl true 96 m.tables, .sl true 33 m.funcs],[.dead])) .fail
  |none=> .fail
 |_=> .fail
theorem S34_ok (l:List (AV Ty)) (r:AV Ty) (outs:List (AV Ty)) (h:(S34 l).val=some (r,outs)):CallOk tb Try.prog 34 l r outs:=by
 unfold S34 at h
 split at h
 ·rename_i x
  split at h
  ·rename_i m e1
   rcases ite_val h with ⟨e,h⟩|⟨_,h⟩
   ·cases h
    have h1:=cod27_ok.dec false x m e1
    subst h1
    exact refCopy_ok m e
   ·cases h
  ·cases h
 ·cases h
end Go.Proofs.Ytggibjbcbicpjaa.Ev
namespace Go.Proofs.Ytggibjbcbicpjaa.Ev
open Go
set_option linter.unusedVariables false
set_option linter.unusedSimpArgs false
def sameX (x y:Ev.Extern):Bool:=x.name.toList == y.name.toList && x.result == y.result && same3 x.params y.params
def sameG (x y:Ev.Global):Bool:=x.name.toList == y.name.toList && same3 x.cells y.cells
def sameT (x y:Ev.Table):Bool:=x.name.toList == y.name.toList && same3 x.funcs y.funcs
def sameMP (a b:Ev.Module):Prop:=(a.externs.length=b.externs.length∧a.globals.length=b.globals.length∧a.tables.length=b.tables.length∧a.funcs.length=b.funcs.length)∧(∀i,i<a.externs.length→sameX (a.externs.getD i (Extern.mk ByteArray.empty [] 0)) (b.externs.getD i (Extern.mk ByteArray.empty [] 0))=true)∧(∀i,i<a.globals.length→sameG (a.globals.getD i (Global.mk ByteArray.empty [])) (b.globals.getD i (Global.mk ByteArray.empty []))=true)∧
 (∀i,i<a.tables.length→sameT (a.tables.getD i (Table.mk ByteArray.empty [])) (b.tables.getD i (Table.mk ByteArray.empty []))=true)∧ ∀i,i<a.funcs.length→sameFun (a.funcs.getD i (Func.mk ByteArray.empty false [] 0 [])) (b.funcs.getD i (Func.mk ByteArray.empty false [] 0 []))=true
instance sameMP.dec (a b:Ev.Module):Decidable (sameMP a b):=by unfold sameMP;infer_instance
def sameMo (a b:Ev.Module):Bool:=decide (sameMP a b)
theorem sameFun_self (f:Ev.Func):sameFun f f=true:=by unfold sameFun same3;simp
theorem sameMo_self (a:Ev.Module):sameMo a a=true:=by
 refine decide_eq_true ⟨⟨rfl,rfl,rfl,rfl⟩,fun i _=> ?_,fun i _=> ?_,fun i _=> ?_,fun i _=>sameFun_self _⟩
 ·unfold sameX same3;simp
 ·unfold sameG same3;simp
 ·unfold sameT same3;simp
section
variable {a b:Ev.Module}
abbrev noE:EvR:=some (.v (.bool false),[.dead, .dead])
end
end Go.Proofs.Ytggibjbcbicpjaa.Ev
namespace Go.Proofs.Ytggibjbcbicpjaa.Ev
open Go
set_option linter.unusedVariables false
set_option linter.unusedSimpArgs false
noncomputable def b94:Code:=bodyOf Try.f94
def C94:Cfg Ty:=⟨fun _=>none,fun _=>false,26,0⟩
def U94:Cuts:=⟨fun
 |0=>some []
 |_=>none,fun
 |0=>some [(0,none),(1,none),(12,none),(13,none)]
 |_=>none,fun _=>none⟩
noncomputable def k94_j0:List Item:=[.code (sndC (sndC (sndC b94)))]
noncomputable def k94_l0:List Item:=[.code (inC (inC (sndC (fstC (sndC (sndC b94)))))), .inLoop (inC (inC (sndC (fstC (sndC (sndC b94)))))), .inBlock 0, .code (sndC (sndC (sndC b94)))]
def a94 (a:List Int) (b:List Int):List (AV Ty):=[.sl false (3:Nat) a, .sl false (3:Nat) b]
noncomputable def R94 (a:List Int) (b:List Int):St Ty→EvR:=resT tb C94 Try.f94.results.toList .keep (a94 a b)
def s94_l0 (a:List Int) (b:List Int) (v12:Int) (v13:Int):St Ty:=St.mk [(0, .sl false (3) a),(1, .sl false (3) b),(12, .v (.int .i64 v12)),(13, .v (.int .i64 v13))] []
def s94_j0 (a:List Int) (b:List Int):St Ty:=St.mk [] []
theorem e94 (J a b):run tb C94 U94 J (R94 a b) 4096 [.code b94] ⟨slotsA (a94 a b) 0 0,heapA (a94 a b)⟩=
 if ((↑a.length:Int) != (↑b.length:Int))=true then
 some (.v (.bool false),[.dead, .dead])
 else
 J k94_l0 (s94_l0 a b ((↑a.length:Int)) 0):=by kernel_rfl
theorem e94_l0 (J a b v12 v13):run tb C94 U94 J (R94 a b) 4096 k94_l0 (s94_l0 a b v12 v13)=
 if decide (v13<v12)=true then
 if 0≤v13 then
 if v13<(↑a.length:Int) then
 if 0≤v13 then
 if v13<(↑b.length:Int) then
 if (a.getD v13.toNat 0 != b.getD v13.toNat 0)=true then
 some (.v (.bool false),[.dead, .dead])
 else
 J k94_l0 (s94_l0 a b v12 (IntKind.i64.wrap (v13+1)))
 else none
 else none
 else none
 else none
 else
 J k94_j0 (s94_j0 a b):=by kernel_rfl
theorem e94_j0 (J a b):run tb C94 U94 J (R94 a b) 4096 k94_j0 (s94_j0 a b)=
 some (.v (.bool true),[.dead, .dead]):=by kernel_rfl

theorem in94:Entered 94:=⟨Try.f94,b94,by kernel_rfl,by kernel_rfl,by kernel_rfl⟩
theorem fn94 (a b:List Int) {res:AV Ty} {outs:List (AV Ty)} (h:Ends C94 U94 (R94 a b) [.code b94] ⟨slotsA (a94 a b) 0 0,heapA (a94 a b)⟩ (some (res,outs))):CallOk tb Try.prog 94 (a94 a b) res outs:=by
 obtain ⟨n0,hn⟩:=h
 exact fn_ok (C:=C94) (U:=U94) (n:=0+n0) (q:= .keep) tbOk good (fun f mu S h=>by cases h) mixed (fn:=Try.f94) (body:=b94) (by kernel_rfl) (by kernel_rfl) rfl rfl (by show 2≤26;omega) (hn 0)
theorem Equal3.at {a b:List Int} (hl:a.length=b.length) (hb:a.length≤4611686018427387904) {i:Nat} (hi:i<a.length):(a.getD i 0=b.getD i 0→Goes C94 U94 (R94 a b) k94_l0 (s94_l0 a b a.length i) k94_l0 (s94_l0 a b a.length (i+1:Nat)))∧(¬a.getD i 0=b.getD i 0→Ends C94 U94 (R94 a b) k94_l0 (s94_l0 a b a.length i) noE):=by
 refine ⟨fun he=> .step fun J=> ?_,fun he=> .step fun J=> ?_⟩
 ·rw [e94_l0]
  simp only [Int.toNat_natCast,he,bne_self_eq_false]
  simp (disch:=first|omega|assumption|(rw [dT];omega)|(rw [dF];omega)) only [↓iP,↓iN,iT,iF,wrap_up,tN,Nat.zero_add,Bool.false_eq_true]
  rfl
 ·have e1:(a.getD i 0 != b.getD i 0)=true:=by simpa using he
  rw [e94_l0]
  simp only [Int.toNat_natCast,e1]
  simp (disch:=first|omega|assumption|(rw [dT];omega)|(rw [dF];omega)) only [↓iP,↓iN,iT,iF,wrap_up,tN,Nat.zero_add]
theorem equal3_ok (a b:List Int) (hb:a.length≤4611686018427387904):CallOk tb Try.prog 94 (a94 a b) (.v (.bool (same3 a b))) [.dead, .dead]:=by
 refine fn94 a b ?_
 have no: ¬a=b→(some (.v (.bool (same3 a b)),[.dead, .dead]):EvR)=noE:=fun h=>by
  rw [show same3 a b=false from decide_eq_false h]
 by_cases hl:a.length=b.length
 ·refine Goes.ends (k':=k94_l0) (s':=s94_l0 a b a.length (0:Nat)) (.step fun J=> ?_) ?_
  ·rw [e94,if_neg (by simp [hl])]
   rfl
  refine Ends.all (rF:=noE) (fun i=>s94_l0 a b a.length i) a.length (fun i=>a.getD i 0=b.getD i 0) (fun i hi hp=>(Equal3.at hl hb hi).1 hp) (fun i hi hp=>(Equal3.at hl hb hi).2 hp) (fun hall=> ?_) (fun hx=>no fun e=>hx fun i _=>by rw [e])
  have:a=b:=List.ext_getElem hl fun i h1 h2=>by
   have:=hall i h1
   rw [List.getD_eq_getElem?_getD,List.getD_eq_getElem?_getD,List.getElem?_eq_getElem h1,List.getElem?_eq_getElem h2] at this
   exact this
  rw [show same3 a b=true from decide_eq_true this]
  refine Goes.ends (k':=k94_j0) (s':=s94_j0 a b) (.step fun J=> ?_) (.step fun J=>e94_j0 ..)
  rw [e94_l0]
  simp (disch:=first|omega|assumption|(rw [dT];omega)|(rw [dF];omega)) only [↓iP,↓iN,iT,iF,wrap_up,tN,Nat.zero_add]
 ·rw [no fun e=>hl (by rw [e])]
  refine .step fun J=> ?_
  rw [e94]
  rw [if_pos (by simp;omega)]
def S94:List (AV Ty)→T (AV Ty×List (AV Ty))
 |[.sl false 3 a, .sl false 3 b]=> .ite (a.length≤4611686018427387904) inferInstance (.ret (.v (.bool (same3 a b)),[.dead, .dead])) .fail
 |_=> .fail
theorem S94_ok (l:List (AV Ty)) (r:AV Ty) (outs:List (AV Ty)) (h:(S94 l).val=some (r,outs)):CallOk tb Try.prog 94 l r outs:=by
 unfold S94 at h
 split at h
 ·rcases ite_val h with ⟨e,h⟩|⟨_,h⟩
  ·cases h;exact equal3_ok _ _ e
  ·cases h
 ·cases h
noncomputable def b134:Code:=bodyOf Try.f134
def C134:Cfg Ty:=⟨fun _=>none,fun _=>false,26,0⟩
def U134:Cuts:=⟨fun
 |0=>some []
 |_=>none,fun
 |0=>some [(0,none),(1,none),(12,none),(13,none)]
 |_=>none,fun _=>none⟩
noncomputable def k134_j0:List Item:=[.code (sndC (sndC (sndC b134)))]
noncomputable def k134_l0:List Item:=[.code (inC (inC (sndC (fstC (sndC (sndC b134)))))), .inLoop (inC (inC (sndC (fstC (sndC (sndC b134)))))), .inBlock 0, .code (sndC (sndC (sndC b134)))]
def a134 (a:List Int) (b:List Int):List (AV Ty):=[.sl false (2:Nat) a, .sl false (2:Nat) b]
noncomputable def R134 (a:List Int) (b:List Int):St Ty→EvR:=resT tb C134 Try.f134.results.toList .keep (a134 a b)
def s134_l0 (a:List Int) (b:List Int) (v12:Int) (v13:Int):St Ty:=St.mk [(0, .sl false (2) a),(1, .sl false (2) b),(12, .v (.int .i64 v12)),(13, .v (.int .i64 v13))] []
def s134_j0 (a:List Int) (b:List Int):St Ty:=St.mk [] []
theorem e134 (J a b):run tb C134 U134 J (R134 a b) 4096 [.code b134] ⟨slotsA (a134 a b) 0 0,heapA (a134 a b)⟩=
 if ((↑a.length:Int) != (↑b.length:Int))=true then
 some (.v (.bool false),[.dead, .dead])
 else
 J k134_l0 (s134_l0 a b ((↑a.length:Int)) 0):=by kernel_rfl
theorem e134_l0 (J a b v12 v13):run tb C134 U134 J (R134 a b) 4096 k134_l0 (s134_l0 a b v12 v13)=
 if decide (v13<v12)=true then
 if 0≤v13 then
 if v13<(↑a.length:Int) then
 if 0≤v13 then
 if v13<(↑b.length:Int) then
 if (a.getD v13.toNat 0 != b.getD v13.toNat 0)=true then
 some (.v (.bool false),[.dead, .dead])
 else
 J k134_l0 (s134_l0 a b v12 (IntKind.i64.wrap (v13+1)))
 else none
 else none
 else none
 else none
 else
 J k134_j0 (s134_j0 a b):=by kernel_rfl
theorem e134_j0 (J a b):run tb C134 U134 J (R134 a b) 4096 k134_j0 (s134_j0 a b)=
 some (.v (.bool true),[.dead, .dead]):=by kernel_rfl

theorem in134:Entered 134:=⟨Try.f134,b134,by kernel_rfl,by kernel_rfl,by kernel_rfl⟩
theorem fn134 (a b:List Int) {res:AV Ty} {outs:List (AV Ty)} (h:Ends C134 U134 (R134 a b) [.code b134] ⟨slotsA (a134 a b) 0 0,heapA (a134 a b)⟩ (some (res,outs))):CallOk tb Try.prog 134 (a134 a b) res outs:=by
 obtain ⟨n0,hn⟩:=h
 exact fn_ok (C:=C134) (U:=U134) (n:=0+n0) (q:= .keep) tbOk good (fun f mu S h=>by cases h) mixed (fn:=Try.f134) (body:=b134) (by kernel_rfl) (by kernel_rfl) rfl rfl (by show 2≤26;omega) (hn 0)
theorem Equal2.at {a b:List Int} (hl:a.length=b.length) (hb:a.length≤4611686018427387904) {i:Nat} (hi:i<a.length):(a.getD i 0=b.getD i 0→Goes C134 U134 (R134 a b) k134_l0 (s134_l0 a b a.length i) k134_l0 (s134_l0 a b a.length (i+1:Nat)))∧(¬a.getD i 0=b.getD i 0→Ends C134 U134 (R134 a b) k134_l0 (s134_l0 a b a.length i) noE):=by
 refine ⟨fun he=> .step fun J=> ?_,fun he=> .step fun J=> ?_⟩
 ·rw [e134_l0]
  simp only [Int.toNat_natCast,he,bne_self_eq_false]
  simp (disch:=first|omega|assumption|(rw [dT];omega)|(rw [dF];omega)) only [↓iP,↓iN,iT,iF,wrap_up,tN,Nat.zero_add,Bool.false_eq_true]
  rfl
 ·have e1:(a.getD i 0 != b.getD i 0)=true:=by simpa using he
  rw [e134_l0]
  simp only [Int.toNat_natCast,e1]
  simp (disch:=first|omega|assumption|(rw [dT];omega)|(rw [dF];omega)) only [↓iP,↓iN,iT,iF,wrap_up,tN,Nat.zero_add]
theorem equal2_ok (a b:List Int) (hb:a.length≤4611686018427387904):CallOk tb Try.prog 134 (a134 a b) (.v (.bool (same3 a b))) [.dead, .dead]:=by
 refine fn134 a b ?_
 have no: ¬a=b→(some (.v (.bool (same3 a b)),[.dead, .dead]):EvR)=noE:=fun h=>by
  rw [show same3 a b=false from decide_eq_false h]
 by_cases hl:a.length=b.length
 ·refine Goes.ends (k':=k134_l0) (s':=s134_l0 a b a.length (0:Nat)) (.step fun J=> ?_) ?_
  ·rw [e134,if_neg (by simp [hl])]
   rfl
  refine Ends.all (rF:=noE) (fun i=>s134_l0 a b a.length i) a.length (fun i=>a.getD i 0=b.getD i 0) (fun i hi hp=>(Equal2.at hl hb hi).1 hp) (fun i hi hp=>(Equal2.at hl hb hi).2 hp) (fun hall=> ?_) (fun hx=>no fun e=>hx fun i _=>by rw [e])
  have:a=b:=List.ext_getElem hl fun i h1 h2=>by
   have:=hall i h1
   rw [List.getD_eq_getElem?_getD,List.getD_eq_getElem?_getD,List.getElem?_eq_getElem h1,List.getElem?_eq_getElem h2] at this
   exact this
  rw [show same3 a b=true from decide_eq_true this]
  refine Goes.ends (k':=k134_j0) (s':=s134_j0 a b) (.step fun J=> ?_) (.step fun J=>e134_j0 ..)
  rw [e134_l0]
  simp (disch:=first|omega|assumption|(rw [dT];omega)|(rw [dF];omega)) only [↓iP,↓iN,iT,iF,wrap_up,tN,Nat.zero_add]
 ·rw [no fun e=>hl (by rw [e])]
  refine .step fun J=> ?_
  rw [e134]
  rw [if_pos (by simp;omega)]
def S134:List (AV Ty)→T (AV Ty×List (AV Ty))
 |[.sl false 2 a, .sl false 2 b]=> .ite (a.length≤4611686018427387904) inferInstance (.ret (.v (.bool (same3 a b)),[.dead, .dead])) .fail
 |_=> .fail
theorem S134_ok (l:List (AV Ty)) (r:AV Ty) (outs:List (AV Ty)) (h:(S134 l).val=some (r,outs)):CallOk tb Try.prog 134 l r outs:=by
 unfold S134 at h
 split at h
 ·rcases ite_val h with ⟨e,h⟩|⟨_,h⟩
  ·cases h;exact equal2_ok _ _ e
  ·cases h
 ·cases h
end Go.Proofs.Ytggibjbcbicpjaa.Ev
namespace Go.Proofs.Ytggibjbcbicpjaa.Ev
open Go
set_option linter.unusedVariables false
set_option linter.unusedSimpArgs false
noncomputable def b87:Code:=bodyOf Try.f87
noncomputable def C87:Cfg Ty:=⟨fun
 |94=>some ([],S94)
 |_=>none,fun _=>false,24,0⟩
def U87:Cuts:=⟨fun _=>none,fun _=>none,fun _=>none⟩
def a87 (a:Extern) (b:Extern):List (AV Ty):=[.agg [.v (.string a.name), .sl false (3:Nat) a.params, .v (.int .i64 a.result)], .agg [.v (.string b.name), .sl false (3:Nat) b.params, .v (.int .i64 b.result)]]
noncomputable def R87 (a:Extern) (b:Extern):St Ty→EvR:=resT tb C87 Try.f87.results.toList .keep (a87 a b)
theorem e87 (J a b):run tb C87 U87 J (R87 a b) 4096 [.code b87] ⟨slotsA (a87 a b) 0 0,heapA (a87 a b)⟩=
 if (a.name.toList == b.name.toList)=true then
 if (a.result == b.result)=true then
 if a.params.length≤4611686018427387904 then
 some (.v (.bool (same3 a.params b.params)),[.dead, .dead])
 else none
 else
 some (.v (.bool false),[.dead, .dead])
 else
 some (.v (.bool false),[.dead, .dead]):=by kernel_rfl

theorem in87:Entered 87:=⟨Try.f87,b87,by kernel_rfl,by kernel_rfl,by kernel_rfl⟩
theorem fn87 (a b:Ev.Extern) {res:AV Ty} {outs:List (AV Ty)} (h:Ends C87 U87 (R87 a b) [.code b87] ⟨slotsA (a87 a b) 0 0,heapA (a87 a b)⟩ (some (res,outs))):CallOk tb Try.prog 87 (a87 a b) res outs:=by
 obtain ⟨n0,hn⟩:=h
 exact fn_ok (C:=C87) (U:=U87) (n:=0+n0) (q:= .keep) tbOk good (fun f mu S h=>by
  unfold C87 at h
  simp only at h
  split at h
  ·cases h;exact ⟨in94,S94_ok⟩
  ·cases h) mixed (fn:=Try.f87) (body:=b87) (by kernel_rfl) (by kernel_rfl) rfl rfl (by show 2≤24;omega) (hn 0)
theorem sameX_ok (a b:Ev.Extern) (h:a.params.length≤4611686018427387904):CallOk tb Try.prog 87 (a87 a b) (.v (.bool (sameX a b))) [.dead, .dead]:=by
 refine fn87 a b (.step fun J=> ?_)
 rw [e87]
 unfold sameX
 simp only [h,if_true]
 cases a.name.toList == b.name.toList<;>cases a.result == b.result<;>cases same3 a.params b.params<;>simp
def S87:List (AV Ty)→T (AV Ty×List (AV Ty))
 |[.agg x, .agg y]=>match cod91.dec false x,cod91.dec false y with
  |some a,some b=> .ite (a.params.length≤4611686018427387904) inferInstance (.ret (.v (.bool (sameX a b)),[.dead, .dead])) .fail
  |_,_=> .fail
 |_=> .fail
theorem S87_ok (l:List (AV Ty)) (r:AV Ty) (outs:List (AV Ty)) (h:(S87 l).val=some (r,outs)):CallOk tb Try.prog 87 l r outs:=by
 unfold S87 at h
 split at h
 ·rename_i x y
  split at h
  ·rename_i a b e1 e2
   rcases ite_val h with ⟨e,h⟩|⟨_,h⟩
   ·cases h
    have h1:=cod91_ok.dec false x a e1
    have h2:=cod91_ok.dec false y b e2
    subst h1 h2
    exact sameX_ok a b e
   ·cases h
  ·cases h
 ·cases h
noncomputable def b89:Code:=bodyOf Try.f89
noncomputable def C89:Cfg Ty:=⟨fun
 |134=>some ([],S134)
 |_=>none,fun _=>false,17,0⟩
def U89:Cuts:=⟨fun _=>none,fun _=>none,fun _=>none⟩
def a89 (a:Global) (b:Global):List (AV Ty):=[.agg [.v (.string a.name), .sl false (2:Nat) a.cells], .agg [.v (.string b.name), .sl false (2:Nat) b.cells]]
noncomputable def R89 (a:Global) (b:Global):St Ty→EvR:=resT tb C89 Try.f89.results.toList .keep (a89 a b)
theorem e89 (J a b):run tb C89 U89 J (R89 a b) 4096 [.code b89] ⟨slotsA (a89 a b) 0 0,heapA (a89 a b)⟩=
 if (a.name.toList == b.name.toList)=true then
 if a.cells.length≤4611686018427387904 then
 some (.v (.bool (same3 a.cells b.cells)),[.dead, .dead])
 else none
 else
 some (.v (.bool false),[.dead, .dead]):=by kernel_rfl

theorem in89:Entered 89:=⟨Try.f89,b89,by kernel_rfl,by kernel_rfl,by kernel_rfl⟩
theorem fn89 (a b:Ev.Global) {res:AV Ty} {outs:List (AV Ty)} (h:Ends C89 U89 (R89 a b) [.code b89] ⟨slotsA (a89 a b) 0 0,heapA (a89 a b)⟩ (some (res,outs))):CallOk tb Try.prog 89 (a89 a b) res outs:=by
 obtain ⟨n0,hn⟩:=h
 exact fn_ok (C:=C89) (U:=U89) (n:=0+n0) (q:= .keep) tbOk good (fun f mu S h=>by
  unfold C89 at h
  simp only at h
  split at h
  ·cases h;exact ⟨in134,S134_ok⟩
  ·cases h) mixed (fn:=Try.f89) (body:=b89) (by kernel_rfl) (by kernel_rfl) rfl rfl (by show 2≤17;omega) (hn 0)
theorem sameG_ok (a b:Ev.Global) (h:a.cells.length≤4611686018427387904):CallOk tb Try.prog 89 (a89 a b) (.v (.bool (sameG a b))) [.dead, .dead]:=by
 refine fn89 a b (.step fun J=> ?_)
 rw [e89]
 unfold sameG
 simp only [h,if_true]
 cases a.name.toList == b.name.toList<;>cases same3 a.cells b.cells<;>simp
def S89:List (AV Ty)→T (AV Ty×List (AV Ty))
 |[.agg x, .agg y]=>match cod94.dec false x,cod94.dec false y with
  |some a,some b=> .ite (a.cells.length≤4611686018427387904) inferInstance (.ret (.v (.bool (sameG a b)),[.dead, .dead])) .fail
  |_,_=> .fail
 |_=> .fail
theorem S89_ok (l:List (AV Ty)) (r:AV Ty) (outs:List (AV Ty)) (h:(S89 l).val=some (r,outs)):CallOk tb Try.prog 89 l r outs:=by
 unfold S89 at h
 split at h
 ·rename_i x y
  split at h
  ·rename_i a b e1 e2
   rcases ite_val h with ⟨e,h⟩|⟨_,h⟩
   ·cases h
    have h1:=cod94_ok.dec false x a e1
    have h2:=cod94_ok.dec false y b e2
    subst h1 h2
    exact sameG_ok a b e
   ·cases h
  ·cases h
 ·cases h
noncomputable def b91:Code:=bodyOf Try.f91
noncomputable def C91:Cfg Ty:=⟨fun
 |94=>some ([],S94)
 |_=>none,fun _=>false,17,0⟩
def U91:Cuts:=⟨fun _=>none,fun _=>none,fun _=>none⟩
def a91 (a:Table) (b:Table):List (AV Ty):=[.agg [.v (.string a.name), .sl false (3:Nat) a.funcs], .agg [.v (.string b.name), .sl false (3:Nat) b.funcs]]
noncomputable def R91 (a:Table) (b:Table):St Ty→EvR:=resT tb C91 Try.f91.results.toList .keep (a91 a b)
theorem e91 (J a b):run tb C91 U91 J (R91 a b) 4096 [.code b91] ⟨slotsA (a91 a b) 0 0,heapA (a91 a b)⟩=
 if (a.name.toList == b.name.toList)=true then
 if a.funcs.length≤4611686018427387904 then
 some (.v (.bool (same3 a.funcs b.funcs)),[.dead, .dead])
 else none
 else
 some (.v (.bool false),[.dead, .dead]):=by kernel_rfl

theorem in91:Entered 91:=⟨Try.f91,b91,by kernel_rfl,by kernel_rfl,by kernel_rfl⟩
theorem fn91 (a b:Ev.Table) {res:AV Ty} {outs:List (AV Ty)} (h:Ends C91 U91 (R91 a b) [.code b91] ⟨slotsA (a91 a b) 0 0,heapA (a91 a b)⟩ (some (res,outs))):CallOk tb Try.prog 91 (a91 a b) res outs:=by
 obtain ⟨n0,hn⟩:=h
 exact fn_ok (C:=C91) (U:=U91) (n:=0+n0) (q:= .keep) tbOk good (fun f mu S h=>by
  unfold C91 at h
  simp only at h
  split at h
  ·cases h;exact ⟨in94,S94_ok⟩
  ·cases h) mixed (fn:=Try.f91) (body:=b91) (by kernel_rfl) (by kernel_rfl) rfl rfl (by show 2≤17;omega) (hn 0)
theorem sameT_ok (a b:Ev.Table) (h:a.funcs.length≤4611686018427387904):CallOk tb Try.prog 91 (a91 a b) (.v (.bool (sameT a b))) [.dead, .dead]:=by
 refine fn91 a b (.step fun J=> ?_)
 rw [e91]
 unfold sameT
 simp only [h,if_true]
 cases a.name.toList == b.name.toList<;>cases same3 a.funcs b.funcs<;>simp
def S91:List (AV Ty)→T (AV Ty×List (AV Ty))
 |[.agg x, .agg y]=>match cod96.dec false x,cod96.dec false y with
  |some a,some b=> .ite (a.funcs.length≤4611686018427387904) inferInstance (.ret (.v (.bool (sameT a b)),[.dead, .dead])) .fail
  |_,_=> .fail
 |_=> .fail
theorem S91_ok (l:List (AV Ty)) (r:AV Ty) (outs:List (AV Ty)) (h:(S91 l).val=some (r,outs)):CallOk tb Try.prog 91 l r outs:=by
 unfold S91 at h
 split at h
 ·rename_i x y
  split at h
  ·rename_i a b e1 e2
   rcases ite_val h with ⟨e,h⟩|⟨_,h⟩
   ·cases h
    have h1:=cod96_ok.dec false x a e1
    have h2:=cod96_ok.dec false y b e2
    subst h1 h2
    exact sameT_ok a b e
   ·cases h
  ·cases h
 ·cases h
noncomputable def b96:Code:=bodyOf Try.f96
noncomputable def C96:Cfg Ty:=⟨fun
 |94=>some ([],S94)
 |_=>none,fun _=>false,52,0⟩
def U96:Cuts:=⟨fun _=>none,fun _=>none,fun _=>none⟩
def a96 (a:Ins) (b:Ins):List (AV Ty):=[.agg [.v (.int .i64 a.op), .v (.int .i64 a.type_), .v (.int .i64 a.to_), .v (.int .i64 a.sym_), .v (.int .i64 a.num), .sl false (3:Nat) a.args, .sl false (3:Nat) a.into], .agg [.v (.int .i64 b.op), .v (.int .i64 b.type_), .v (.int .i64 b.to_), .v (.int .i64 b.sym_), .v (.int .i64 b.num), .sl false (3:Nat) b.args, .sl false (3:Nat) b.into]]
noncomputable def R96 (a:Ins) (b:Ins):St Ty→EvR:=resT tb C96 Try.f96.results.toList .keep (a96 a b)
theorem e96 (J a b):run tb C96 U96 J (R96 a b) 4096 [.code b96] ⟨slotsA (a96 a b) 0 0,heapA (a96 a b)⟩=
 if (a.op == b.op)=true then
 if (a.type_ == b.type_)=true then
 if (a.to_ == b.to_)=true then
 if (a.sym_ == b.sym_)=true then
 if (a.num == b.num)=true then
 if a.args.length≤4611686018427387904 then
 if same3 a.args b.args=true then
 if a.into.length≤4611686018427387904 then
 some (.v (.bool (same3 a.into b.into)),[.dead, .dead])
 else none
 else
 some (.v (.bool false),[.dead, .dead])
 else none
 else
 some (.v (.bool false),[.dead, .dead])
 else
 some (.v (.bool false),[.dead, .dead])
 else
 some (.v (.bool false),[.dead, .dead])
 else
 some (.v (.bool false),[.dead, .dead])
 else
 some (.v (.bool false),[.dead, .dead]):=by kernel_rfl

theorem in96:Entered 96:=⟨Try.f96,b96,by kernel_rfl,by kernel_rfl,by kernel_rfl⟩
theorem fn96 (a b:Ev.Ins) {res:AV Ty} {outs:List (AV Ty)} (h:Ends C96 U96 (R96 a b) [.code b96] ⟨slotsA (a96 a b) 0 0,heapA (a96 a b)⟩ (some (res,outs))):CallOk tb Try.prog 96 (a96 a b) res outs:=by
 obtain ⟨n0,hn⟩:=h
 exact fn_ok (C:=C96) (U:=U96) (n:=0+n0) (q:= .keep) tbOk good (fun f mu S h=>by
  unfold C96 at h
  simp only at h
  split at h
  ·cases h;exact ⟨in94,S94_ok⟩
  ·cases h) mixed (fn:=Try.f96) (body:=b96) (by kernel_rfl) (by kernel_rfl) rfl rfl (by show 2≤52;omega) (hn 0)
theorem irSameIns_ok (a b:Ev.Ins) (h:okIns a):CallOk tb Try.prog 96 (a96 a b) (.v (.bool (sameIns a b))) [.dead, .dead]:=by
 refine fn96 a b (.step fun J=> ?_)
 rw [e96]
 unfold sameIns
 have h1:a.args.length≤4611686018427387904:=by have:=h.1;omega
 have h2:a.into.length≤4611686018427387904:=by have:=h.2;omega
 simp only [h1,h2,if_true]
 cases a.op == b.op<;>cases a.type_ == b.type_<;>cases a.to_ == b.to_<;>cases a.sym_ == b.sym_<;>cases a.num == b.num<;>cases same3 a.args b.args<;>cases same3 a.into b.into<;>simp
def S96:List (AV Ty)→T (AV Ty×List (AV Ty))
 |[.agg x, .agg y]=>match cod46.dec false x,cod46.dec false y with
  |some a,some b=> .ite (okIns a) (okIns.dec a) (.ret (.v (.bool (sameIns a b)),[.dead, .dead])) .fail
  |_,_=> .fail
 |_=> .fail
theorem S96_ok (l:List (AV Ty)) (r:AV Ty) (outs:List (AV Ty)) (h:(S96 l).val=some (r,outs)):CallOk tb Try.prog 96 l r outs:=by
 unfold S96 at h
 split at h
 ·rename_i x y
  split at h
  ·rename_i a b e1 e2
   rcases ite_val h with ⟨e,h⟩|⟨_,h⟩
   ·cases h
    have h1:=cod46_ok.dec false x a e1
    have h2:=cod46_ok.dec false y b e2
    subst h1 h2
    exact irSameIns_ok a b e
   ·cases h
  ·cases h
 ·cases h
end Go.Proofs.Ytggibjbcbicpjaa.Ev
namespace Go.Proofs.Ytggibjbcbicpjaa.Ev
open Go
set_option linter.unusedVariables false
set_option linter.unusedSimpArgs false
abbrev no3:EvR:=some (.v (.bool false),[.dead, .dead, .dead])
def eqIns (a b:List Ev.Ins):Bool:=decide (a=b)
def eqX (a b:List Ev.Extern):Bool:=decide (a.length=b.length∧ ∀i,i<a.length→sameX (a.getD i (Extern.mk ByteArray.empty [] 0)) (b.getD i (Extern.mk ByteArray.empty [] 0))=true)
def eqG (a b:List Ev.Global):Bool:=decide (a.length=b.length∧ ∀i,i<a.length→sameG (a.getD i (Global.mk ByteArray.empty [])) (b.getD i (Global.mk ByteArray.empty []))=true)
def eqT (a b:List Ev.Table):Bool:=decide (a.length=b.length∧ ∀i,i<a.length→sameT (a.getD i (Table.mk ByteArray.empty [])) (b.getD i (Table.mk ByteArray.empty []))=true)
def eqF (a b:List Ev.Func):Bool:=decide (a.length=b.length∧ ∀i,i<a.length→sameFun (a.getD i (Func.mk ByteArray.empty false [] 0 [])) (b.getD i (Func.mk ByteArray.empty false [] 0 []))=true)
theorem ins_ext {a b:List Ev.Ins}:a=b↔a.length=b.length∧ ∀i,i<a.length→sameIns (a.getD i (Ins.mk 0 0 0 0 0 [] [])) (b.getD i (Ins.mk 0 0 0 0 0 [] []))=true:=by
 constructor
 ·intro e
  subst e
  exact ⟨rfl,fun i _=>(sameIns_eq _ _).2 rfl⟩
 ·intro ⟨hl,h⟩
  refine List.ext_getElem hl fun i h1 h2=> ?_
  have:=(sameIns_eq _ _).1 (h i h1)
  rw [List.getD_eq_getElem?_getD,List.getD_eq_getElem?_getD,List.getElem?_eq_getElem h1,List.getElem?_eq_getElem h2] at this
  exact this
def cI (a:List Ev.Ins):Prop:=a.length≤1000∧ ∀x,x∈a→okIns x
instance cI.dec (a:List Ev.Ins):Decidable (cI a):=by unfold cI;infer_instance
noncomputable def b95:Code:=bodyOf Try.f95
noncomputable def C95:Cfg Ty:=⟨fun
 |96=>some ([],S96)
 |_=>none,fun _=>false,32,0⟩
def U95:Cuts:=⟨fun
 |0=>some []
 |_=>none,fun
 |0=>some [(1,none),(2,none),(15,none),(16,none),(17,none)]
 |_=>none,fun _=>none⟩
noncomputable def k95_j0:List Item:=[.code (sndC (sndC (sndC b95)))]
noncomputable def k95_l0:List Item:=[.code (inC (inC (sndC (fstC (sndC (sndC b95)))))), .inLoop (inC (inC (sndC (fstC (sndC (sndC b95)))))), .inBlock 0, .code (sndC (sndC (sndC b95)))]
def a95 (a:List Ins) (b:List Ins):List (AV Ty):=[.sl false (46:Nat) a, .sl false (46:Nat) b, .v (.func (Fn.func (96:FuncId)) #[] #[])]
noncomputable def R95 (a:List Ins) (b:List Ins):St Ty→EvR:=resT tb C95 Try.f95.results.toList .keep (a95 a b)
def s95_l0 (a:List Ins) (b:List Ins) (v15:List Ins) (v16:Int) (v17:Int):St Ty:=St.mk [(1, .sl false (46) b),(2, .v (.func (Fn.func (96:FuncId)) (Array.mk []) (Array.mk []))),(15, .sl false (46) v15),(16, .v (.int .i64 v16)),(17, .v (.int .i64 v17))] []
def s95_j0 (a:List Ins) (b:List Ins):St Ty:=St.mk [] []
theorem e95 (J a b):run tb C95 U95 J (R95 a b) 4096 [.code b95] ⟨slotsA (a95 a b) 0 0,heapA (a95 a b)⟩=
 if ((↑a.length:Int) != (↑b.length:Int))=true then
 some (.v (.bool false),[.dead, .dead, .dead])
 else
 J k95_l0 (s95_l0 a b a ((↑a.length:Int)) 0):=by kernel_rfl
theorem e95_l0 (J a b v15 v16 v17):run tb C95 U95 J (R95 a b) 4096 k95_l0 (s95_l0 a b v15 v16 v17)=
 if decide (v17<v16)=true then
 if 0≤v17 then
 if v17<(↑v15.length:Int) then
 if 0≤v17 then
 if v17<(↑b.length:Int) then
 if okIns (Ins.mk (v15.getD v17.toNat (Ins.mk 0 0 0 0 0 [] [])).op (v15.getD v17.toNat (Ins.mk 0 0 0 0 0 [] [])).type_ (v15.getD v17.toNat (Ins.mk 0 0 0 0 0 [] [])).to_ (v15.getD v17.toNat (Ins.mk 0 0 0 0 0 [] [])).sym_ (v15.getD v17.toNat (Ins.mk 0 0 0 0 0 [] [])).num (v15.getD v17.toNat (Ins.mk 0 0 0 0 0 [] [])).args (v15.getD v17.toNat (Ins.mk 0 0 0 0 0 [] [])).into) then
 if (!sameIns (Ins.mk (v15.getD v17.toNat (Ins.mk 0 0 0 0 0 [] [])).op (v15.getD v17.toNat (Ins.mk 0 0 0 0 0 [] [])).type_ (v15.getD v17.toNat (Ins.mk 0 0 0 0 0 [] [])).to_ (v15.getD v17.toNat (Ins.mk 0 0 0 0 0 [] [])).sym_ (v15.getD v17.toNat (Ins.mk 0 0 0 0 0 [] [])).num (v15.getD v17.toNat (Ins.mk 0 0 0 0 0 [] [])).args (v15.getD v17.toNat (Ins.mk 0 0 0 0 0 [] [])).into) (Ins.mk (b.getD v17.toNat (Ins.mk 0 0 0 0 0 [] [])).op (b.getD v17.toNat (Ins.mk 0 0 0 0 0 [] [])).type_ (b.getD v17.toNat (Ins.mk 0 0 0 0 0 [] [])).to_ (b.getD v17.toNat (Ins.mk 0 0 0 0 0 [] [])).sym_ (b.getD v17.toNat (Ins.mk 0 0 0 0 0 [] [])).num (b.getD v17.toNat (Ins.mk 0 0 0 0 0 [] [])).args (b.getD v17.toNat (Ins.mk 0 0 0 0 0 [] [])).into))=true then
 some (.v (.bool false),[.dead, .dead, .dead])
 else
 J k95_l0 (s95_l0 a b v15 v16 (IntKind.i64.wrap (v17+1)))
 else none
 else none
 else none
 else none
 else none
 else
 J k95_j0 (s95_j0 a b):=by kernel_rfl
theorem e95_j0 (J a b):run tb C95 U95 J (R95 a b) 4096 k95_j0 (s95_j0 a b)=
 some (.v (.bool true),[.dead, .dead, .dead]):=by kernel_rfl

theorem in95:Entered 95:=⟨Try.f95,b95,by kernel_rfl,by kernel_rfl,by kernel_rfl⟩
theorem fn95 (a b:List Ev.Ins) {res:AV Ty} {outs:List (AV Ty)} (h:Ends C95 U95 (R95 a b) [.code b95] ⟨slotsA (a95 a b) 0 0,heapA (a95 a b)⟩ (some (res,outs))):CallOk tb Try.prog 95 (a95 a b) res outs:=by
 obtain ⟨n0,hn⟩:=h
 exact fn_ok (C:=C95) (U:=U95) (n:=0+n0) (q:= .keep) tbOk good (fun f mu S h=>by
  unfold C95 at h
  simp only at h
  split at h
  ·cases h;exact ⟨in96,S96_ok⟩
  ·cases h) mixed (fn:=Try.f95) (body:=b95) (by kernel_rfl) (by kernel_rfl) rfl rfl (by show 3≤32;omega) (hn 0)
theorem EqfI.at {a b:List Ev.Ins} (hl:a.length=b.length) (h:cI a) {i:Nat} (hi:i<a.length):(sameIns (a.getD i (Ins.mk 0 0 0 0 0 [] [])) (b.getD i (Ins.mk 0 0 0 0 0 [] []))=true→Goes C95 U95 (R95 a b) k95_l0 (s95_l0 a b a a.length i) k95_l0 (s95_l0 a b a a.length (i+1:Nat)))∧(¬sameIns (a.getD i (Ins.mk 0 0 0 0 0 [] [])) (b.getD i (Ins.mk 0 0 0 0 0 [] []))=true→Ends C95 U95 (R95 a b) k95_l0 (s95_l0 a b a a.length i) no3):=by
 have h1:=h.1
 have h2:=h.2 _ (getD_mem (d:=(Ins.mk 0 0 0 0 0 [] [])) hi)
 have e1:Ins.mk (a.getD i (Ins.mk 0 0 0 0 0 [] [])).op (a.getD i (Ins.mk 0 0 0 0 0 [] [])).type_ (a.getD i (Ins.mk 0 0 0 0 0 [] [])).to_ (a.getD i (Ins.mk 0 0 0 0 0 [] [])).sym_ (a.getD i (Ins.mk 0 0 0 0 0 [] [])).num (a.getD i (Ins.mk 0 0 0 0 0 [] [])).args (a.getD i (Ins.mk 0 0 0 0 0 [] [])).into=a.getD i (Ins.mk 0 0 0 0 0 [] []):=rfl
 have e2:Ins.mk (b.getD i (Ins.mk 0 0 0 0 0 [] [])).op (b.getD i (Ins.mk 0 0 0 0 0 [] [])).type_ (b.getD i (Ins.mk 0 0 0 0 0 [] [])).to_ (b.getD i (Ins.mk 0 0 0 0 0 [] [])).sym_ (b.getD i (Ins.mk 0 0 0 0 0 [] [])).num (b.getD i (Ins.mk 0 0 0 0 0 [] [])).args (b.getD i (Ins.mk 0 0 0 0 0 [] [])).into=b.getD i (Ins.mk 0 0 0 0 0 [] []):=rfl
 have key: ∀(J:List Item→St Ty→EvR),run tb C95 U95 J (R95 a b) 4096 k95_l0 (s95_l0 a b a a.length i)=if sameIns (a.getD i (Ins.mk 0 0 0 0 0 [] [])) (b.getD i (Ins.mk 0 0 0 0 0 [] []))=true then J k95_l0 (s95_l0 a b a a.length (i+1:Nat)) else no3:=fun J=>by
  rw [e95_l0]
  simp only [Int.toNat_natCast]
  simp only [e1,e2]
  simp (disch:=first|omega|assumption|(rw [dT];omega)|(rw [dF];omega)) only [↓iP,↓iN,iT,iF,wrap_up,tN,Nat.zero_add]
  cases sameIns (a.getD i (Ins.mk 0 0 0 0 0 [] [])) (b.getD i (Ins.mk 0 0 0 0 0 [] []))<;>simp<;>rfl
 exact ⟨fun e=> .step fun J=>by rw [key,if_pos e],fun e=> .step fun J=>by rw [key,if_neg e]⟩
theorem eqfI_ok (a b:List Ev.Ins) (h:cI a):CallOk tb Try.prog 95 (a95 a b) (.v (.bool (eqIns a b))) [.dead, .dead, .dead]:=by
 refine fn95 a b ?_
 have no: ¬(a.length=b.length∧ ∀i,i<a.length→sameIns (a.getD i (Ins.mk 0 0 0 0 0 [] [])) (b.getD i (Ins.mk 0 0 0 0 0 [] []))=true)→(some (.v (.bool (eqIns a b)),[.dead, .dead, .dead]):EvR)=no3:=fun h=>by
  rw [show eqIns a b=false from decide_eq_false fun e=>h (ins_ext.1 e)]
 by_cases hl:a.length=b.length
 ·refine Goes.ends (k':=k95_l0) (s':=s95_l0 a b a a.length (0:Nat)) (.step fun J=> ?_) ?_
  ·rw [e95,if_neg (by simp [hl])]
   rfl
  refine Ends.all (rF:=no3) (fun i=>s95_l0 a b a a.length i) a.length (fun i=>sameIns (a.getD i (Ins.mk 0 0 0 0 0 [] [])) (b.getD i (Ins.mk 0 0 0 0 0 [] []))=true) (fun i hi hp=>(EqfI.at hl h hi).1 hp) (fun i hi hp=>(EqfI.at hl h hi).2 hp) (fun hall=> ?_) (fun hx=>no fun e=>hx e.2)
  rw [show eqIns a b=true from decide_eq_true (ins_ext.2 ⟨hl,hall⟩)]
  refine Goes.ends (k':=k95_j0) (s':=s95_j0 a b) (.step fun J=> ?_) (.step fun J=>e95_j0 ..)
  rw [e95_l0]
  simp (disch:=first|omega|assumption|(rw [dT];omega)|(rw [dF];omega)) only [↓iP,↓iN,iT,iF,wrap_up,tN,Nat.zero_add]
 ·rw [no fun e=>hl e.1]
  refine .step fun J=> ?_
  rw [e95]
  rw [if_pos (by simp;omega)]
def S95:List (AV Ty)→T (AV Ty×List (AV Ty))
 |[.sl false 46 a, .sl false 46 b, .v (.func (.func 96) ⟨[]⟩ ⟨[]⟩)]=> .ite (cI a) (cI.dec a) (.ret (.v (.bool (eqIns a b)),[.dead, .dead, .dead])) .fail
 |_=> .fail
theorem S95_ok (l:List (AV Ty)) (r:AV Ty) (outs:List (AV Ty)) (h:(S95 l).val=some (r,outs)):CallOk tb Try.prog 95 l r outs:=by
 unfold S95 at h
 split at h
 ·rename_i a b
  rcases ite_val h with ⟨e,h⟩|⟨_,h⟩
  ·cases h;exact eqfI_ok a b e
  ·cases h
 ·cases h
def cX (a:List Ev.Extern):Prop:=a.length≤1000∧ ∀x,x∈a→x.params.length≤1000
instance cX.dec (a:List Ev.Extern):Decidable (cX a):=by unfold cX;infer_instance
noncomputable def b86:Code:=bodyOf Try.f86
noncomputable def C86:Cfg Ty:=⟨fun
 |87=>some ([],S87)
 |_=>none,fun _=>false,32,0⟩
def U86:Cuts:=⟨fun
 |0=>some []
 |_=>none,fun
 |0=>some [(1,none),(2,none),(15,none),(16,none),(17,none)]
 |_=>none,fun _=>none⟩
noncomputable def k86_j0:List Item:=[.code (sndC (sndC (sndC b86)))]
noncomputable def k86_l0:List Item:=[.code (inC (inC (sndC (fstC (sndC (sndC b86)))))), .inLoop (inC (inC (sndC (fstC (sndC (sndC b86)))))), .inBlock 0, .code (sndC (sndC (sndC b86)))]
def a86 (a:List Extern) (b:List Extern):List (AV Ty):=[.sl false (91:Nat) a, .sl false (91:Nat) b, .v (.func (Fn.func (87:FuncId)) #[] #[])]
noncomputable def R86 (a:List Extern) (b:List Extern):St Ty→EvR:=resT tb C86 Try.f86.results.toList .keep (a86 a b)
def s86_l0 (a:List Extern) (b:List Extern) (v15:List Extern) (v16:Int) (v17:Int):St Ty:=St.mk [(1, .sl false (91) b),(2, .v (.func (Fn.func (87:FuncId)) (Array.mk []) (Array.mk []))),(15, .sl false (91) v15),(16, .v (.int .i64 v16)),(17, .v (.int .i64 v17))] []
def s86_j0 (a:List Extern) (b:List Extern):St Ty:=St.mk [] []
theorem e86 (J a b):run tb C86 U86 J (R86 a b) 4096 [.code b86] ⟨slotsA (a86 a b) 0 0,heapA (a86 a b)⟩=
 if ((↑a.length:Int) != (↑b.length:Int))=true then
 some (.v (.bool false),[.dead, .dead, .dead])
 else
 J k86_l0 (s86_l0 a b a ((↑a.length:Int)) 0):=by kernel_rfl
theorem e86_l0 (J a b v15 v16 v17):run tb C86 U86 J (R86 a b) 4096 k86_l0 (s86_l0 a b v15 v16 v17)=
 if decide (v17<v16)=true then
 if 0≤v17 then
 if v17<(↑v15.length:Int) then
 if 0≤v17 then
 if v17<(↑b.length:Int) then
 if (v15.getD v17.toNat (Extern.mk ByteArray.empty [] 0)).params.length≤4611686018427387904 then
 if (!sameX (Extern.mk (v15.getD v17.toNat (Extern.mk ByteArray.empty [] 0)).name (v15.getD v17.toNat (Extern.mk ByteArray.empty [] 0)).params (v15.getD v17.toNat (Extern.mk ByteArray.empty [] 0)).result) (Extern.mk (b.getD v17.toNat (Extern.mk ByteArray.empty [] 0)).name (b.getD v17.toNat (Extern.mk ByteArray.empty [] 0)).params (b.getD v17.toNat (Extern.mk ByteArray.empty [] 0)).result))=true then
 some (.v (.bool false),[.dead, .dead, .dead])
 else
 J k86_l0 (s86_l0 a b v15 v16 (IntKind.i64.wrap (v17+1)))
 else none
 else none
 else none
 else none
 else none
 else
 J k86_j0 (s86_j0 a b):=by kernel_rfl
theorem e86_j0 (J a b):run tb C86 U86 J (R86 a b) 4096 k86_j0 (s86_j0 a b)=
 some (.v (.bool true),[.dead, .dead, .dead]):=by kernel_rfl

theorem in86:Entered 86:=⟨Try.f86,b86,by kernel_rfl,by kernel_rfl,by kernel_rfl⟩
theorem fn86 (a b:List Ev.Extern) {res:AV Ty} {outs:List (AV Ty)} (h:Ends C86 U86 (R86 a b) [.code b86] ⟨slotsA (a86 a b) 0 0,heapA (a86 a b)⟩ (some (res,outs))):CallOk tb Try.prog 86 (a86 a b) res outs:=by
 obtain ⟨n0,hn⟩:=h
 exact fn_ok (C:=C86) (U:=U86) (n:=0+n0) (q:= .keep) tbOk good (fun f mu S h=>by
  unfold C86 at h
  simp only at h
  split at h
  ·cases h;exact ⟨in87,S87_ok⟩
  ·cases h) mixed (fn:=Try.f86) (body:=b86) (by kernel_rfl) (by kernel_rfl) rfl rfl (by show 3≤32;omega) (hn 0)
theorem EqfX.at {a b:List Ev.Extern} (hl:a.length=b.length) (h:cX a) {i:Nat} (hi:i<a.length):(sameX (a.getD i (Extern.mk ByteArray.empty [] 0)) (b.getD i (Extern.mk ByteArray.empty [] 0))=true→Goes C86 U86 (R86 a b) k86_l0 (s86_l0 a b a a.length i) k86_l0 (s86_l0 a b a a.length (i+1:Nat)))∧(¬sameX (a.getD i (Extern.mk ByteArray.empty [] 0)) (b.getD i (Extern.mk ByteArray.empty [] 0))=true→Ends C86 U86 (R86 a b) k86_l0 (s86_l0 a b a a.length i) no3):=by
 have h1:=h.1
 have h2:=h.2 _ (getD_mem (d:=(Extern.mk ByteArray.empty [] 0)) hi)
 have e1:Extern.mk (a.getD i (Extern.mk ByteArray.empty [] 0)).name (a.getD i (Extern.mk ByteArray.empty [] 0)).params (a.getD i (Extern.mk ByteArray.empty [] 0)).result=a.getD i (Extern.mk ByteArray.empty [] 0):=rfl
 have e2:Extern.mk (b.getD i (Extern.mk ByteArray.empty [] 0)).name (b.getD i (Extern.mk ByteArray.empty [] 0)).params (b.getD i (Extern.mk ByteArray.empty [] 0)).result=b.getD i (Extern.mk ByteArray.empty [] 0):=rfl
 have key: ∀(J:List Item→St Ty→EvR),run tb C86 U86 J (R86 a b) 4096 k86_l0 (s86_l0 a b a a.length i)=if sameX (a.getD i (Extern.mk ByteArray.empty [] 0)) (b.getD i (Extern.mk ByteArray.empty [] 0))=true then J k86_l0 (s86_l0 a b a a.length (i+1:Nat)) else no3:=fun J=>by
  rw [e86_l0]
  simp only [Int.toNat_natCast]
  simp only [e1,e2]
  simp (disch:=first|omega|assumption|(rw [dT];omega)|(rw [dF];omega)) only [↓iP,↓iN,iT,iF,wrap_up,tN,Nat.zero_add]
  cases sameX (a.getD i (Extern.mk ByteArray.empty [] 0)) (b.getD i (Extern.mk ByteArray.empty [] 0))<;>simp<;>rfl
 exact ⟨fun e=> .step fun J=>by rw [key,if_pos e],fun e=> .step fun J=>by rw [key,if_neg e]⟩
theorem eqfX_ok (a b:List Ev.Extern) (h:cX a):CallOk tb Try.prog 86 (a86 a b) (.v (.bool (eqX a b))) [.dead, .dead, .dead]:=by
 refine fn86 a b ?_
 have no: ¬(a.length=b.length∧ ∀i,i<a.length→sameX (a.getD i (Extern.mk ByteArray.empty [] 0)) (b.getD i (Extern.mk ByteArray.empty [] 0))=true)→(some (.v (.bool (eqX a b)),[.dead, .dead, .dead]):EvR)=no3:=fun h=>by
  rw [show eqX a b=false from decide_eq_false fun e=>h (e)]
 by_cases hl:a.length=b.length
 ·refine Goes.ends (k':=k86_l0) (s':=s86_l0 a b a a.length (0:Nat)) (.step fun J=> ?_) ?_
  ·rw [e86,if_neg (by simp [hl])]
   rfl
  refine Ends.all (rF:=no3) (fun i=>s86_l0 a b a a.length i) a.length (fun i=>sameX (a.getD i (Extern.mk ByteArray.empty [] 0)) (b.getD i (Extern.mk ByteArray.empty [] 0))=true) (fun i hi hp=>(EqfX.at hl h hi).1 hp) (fun i hi hp=>(EqfX.at hl h hi).2 hp) (fun hall=> ?_) (fun hx=>no fun e=>hx e.2)
  rw [show eqX a b=true from decide_eq_true (⟨hl,hall⟩)]
  refine Goes.ends (k':=k86_j0) (s':=s86_j0 a b) (.step fun J=> ?_) (.step fun J=>e86_j0 ..)
  rw [e86_l0]
  simp (disch:=first|omega|assumption|(rw [dT];omega)|(rw [dF];omega)) only [↓iP,↓iN,iT,iF,wrap_up,tN,Nat.zero_add]
 ·rw [no fun e=>hl e.1]
  refine .step fun J=> ?_
  rw [e86]
  rw [if_pos (by simp;omega)]
def S86:List (AV Ty)→T (AV Ty×List (AV Ty))
 |[.sl false 91 a, .sl false 91 b, .v (.func (.func 87) ⟨[]⟩ ⟨[]⟩)]=> .ite (cX a) (cX.dec a) (.ret (.v (.bool (eqX a b)),[.dead, .dead, .dead])) .fail
 |_=> .fail
theorem S86_ok (l:List (AV Ty)) (r:AV Ty) (outs:List (AV Ty)) (h:(S86 l).val=some (r,outs)):CallOk tb Try.prog 86 l r outs:=by
 unfold S86 at h
 split at h
 ·rename_i a b
  rcases ite_val h with ⟨e,h⟩|⟨_,h⟩
  ·cases h;exact eqfX_ok a b e
  ·cases h
 ·cases h
def cG (a:List Ev.Global):Prop:=a.length≤1000∧ ∀x,x∈a→x.cells.length≤1000
instance cG.dec (a:List Ev.Global):Decidable (cG a):=by unfold cG;infer_instance
noncomputable def b88:Code:=bodyOf Try.f88
noncomputable def C88:Cfg Ty:=⟨fun
 |89=>some ([],S89)
 |_=>none,fun _=>false,32,0⟩
def U88:Cuts:=⟨fun
 |0=>some []
 |_=>none,fun
 |0=>some [(1,none),(2,none),(15,none),(16,none),(17,none)]
 |_=>none,fun _=>none⟩
noncomputable def k88_j0:List Item:=[.code (sndC (sndC (sndC b88)))]
noncomputable def k88_l0:List Item:=[.code (inC (inC (sndC (fstC (sndC (sndC b88)))))), .inLoop (inC (inC (sndC (fstC (sndC (sndC b88)))))), .inBlock 0, .code (sndC (sndC (sndC b88)))]
def a88 (a:List Global) (b:List Global):List (AV Ty):=[.sl false (94:Nat) a, .sl false (94:Nat) b, .v (.func (Fn.func (89:FuncId)) #[] #[])]
noncomputable def R88 (a:List Global) (b:List Global):St Ty→EvR:=resT tb C88 Try.f88.results.toList .keep (a88 a b)
def s88_l0 (a:List Global) (b:List Global) (v15:List Global) (v16:Int) (v17:Int):St Ty:=St.mk [(1, .sl false (94) b),(2, .v (.func (Fn.func (89:FuncId)) (Array.mk []) (Array.mk []))),(15, .sl false (94) v15),(16, .v (.int .i64 v16)),(17, .v (.int .i64 v17))] []
def s88_j0 (a:List Global) (b:List Global):St Ty:=St.mk [] []
theorem e88 (J a b):run tb C88 U88 J (R88 a b) 4096 [.code b88] ⟨slotsA (a88 a b) 0 0,heapA (a88 a b)⟩=
 if ((↑a.length:Int) != (↑b.length:Int))=true then
 some (.v (.bool false),[.dead, .dead, .dead])
 else
 J k88_l0 (s88_l0 a b a ((↑a.length:Int)) 0):=by kernel_rfl
theorem e88_l0 (J a b v15 v16 v17):run tb C88 U88 J (R88 a b) 4096 k88_l0 (s88_l0 a b v15 v16 v17)=
 if decide (v17<v16)=true then
 if 0≤v17 then
 if v17<(↑v15.length:Int) then
 if 0≤v17 then
 if v17<(↑b.length:Int) then
 if (v15.getD v17.toNat (Global.mk ByteArray.empty [])).cells.length≤4611686018427387904 then
 if (!sameG (Global.mk (v15.getD v17.toNat (Global.mk ByteArray.empty [])).name (v15.getD v17.toNat (Global.mk ByteArray.empty [])).cells) (Global.mk (b.getD v17.toNat (Global.mk ByteArray.empty [])).name (b.getD v17.toNat (Global.mk ByteArray.empty [])).cells))=true then
 some (.v (.bool false),[.dead, .dead, .dead])
 else
 J k88_l0 (s88_l0 a b v15 v16 (IntKind.i64.wrap (v17+1)))
 else none
 else none
 else none
 else none
 else none
 else
 J k88_j0 (s88_j0 a b):=by kernel_rfl
theorem e88_j0 (J a b):run tb C88 U88 J (R88 a b) 4096 k88_j0 (s88_j0 a b)=
 some (.v (.bool true),[.dead, .dead, .dead]):=by kernel_rfl

theorem in88:Entered 88:=⟨Try.f88,b88,by kernel_rfl,by kernel_rfl,by kernel_rfl⟩
theorem fn88 (a b:List Ev.Global) {res:AV Ty} {outs:List (AV Ty)} (h:Ends C88 U88 (R88 a b) [.code b88] ⟨slotsA (a88 a b) 0 0,heapA (a88 a b)⟩ (some (res,outs))):CallOk tb Try.prog 88 (a88 a b) res outs:=by
 obtain ⟨n0,hn⟩:=h
 exact fn_ok (C:=C88) (U:=U88) (n:=0+n0) (q:= .keep) tbOk good (fun f mu S h=>by
  unfold C88 at h
  simp only at h
  split at h
  ·cases h;exact ⟨in89,S89_ok⟩
  ·cases h) mixed (fn:=Try.f88) (body:=b88) (by kernel_rfl) (by kernel_rfl) rfl rfl (by show 3≤32;omega) (hn 0)
theorem EqfG.at {a b:List Ev.Global} (hl:a.length=b.length) (h:cG a) {i:Nat} (hi:i<a.length):(sameG (a.getD i (Global.mk ByteArray.empty [])) (b.getD i (Global.mk ByteArray.empty []))=true→Goes C88 U88 (R88 a b) k88_l0 (s88_l0 a b a a.length i) k88_l0 (s88_l0 a b a a.length (i+1:Nat)))∧(¬sameG (a.getD i (Global.mk ByteArray.empty [])) (b.getD i (Global.mk ByteArray.empty []))=true→Ends C88 U88 (R88 a b) k88_l0 (s88_l0 a b a a.length i) no3):=by
 have h1:=h.1
 have h2:=h.2 _ (getD_mem (d:=(Global.mk ByteArray.empty [])) hi)
 have e1:Global.mk (a.getD i (Global.mk ByteArray.empty [])).name (a.getD i (Global.mk ByteArray.empty [])).cells=a.getD i (Global.mk ByteArray.empty []):=rfl
 have e2:Global.mk (b.getD i (Global.mk ByteArray.empty [])).name (b.getD i (Global.mk ByteArray.empty [])).cells=b.getD i (Global.mk ByteArray.empty []):=rfl
 have key: ∀(J:List Item→St Ty→EvR),run tb C88 U88 J (R88 a b) 4096 k88_l0 (s88_l0 a b a a.length i)=if sameG (a.getD i (Global.mk ByteArray.empty [])) (b.getD i (Global.mk ByteArray.empty []))=true then J k88_l0 (s88_l0 a b a a.length (i+1:Nat)) else no3:=fun J=>by
  rw [e88_l0]
  simp only [Int.toNat_natCast]
  simp only [e1,e2]
  simp (disch:=first|omega|assumption|(rw [dT];omega)|(rw [dF];omega)) only [↓iP,↓iN,iT,iF,wrap_up,tN,Nat.zero_add]
  cases sameG (a.getD i (Global.mk ByteArray.empty [])) (b.getD i (Global.mk ByteArray.empty []))<;>simp<;>rfl
 exact ⟨fun e=> .step fun J=>by rw [key,if_pos e],fun e=> .step fun J=>by rw [key,if_neg e]⟩
theorem eqfG_ok (a b:List Ev.Global) (h:cG a):CallOk tb Try.prog 88 (a88 a b) (.v (.bool (eqG a b))) [.dead, .dead, .dead]:=by
 refine fn88 a b ?_
 have no: ¬(a.length=b.length∧ ∀i,i<a.length→sameG (a.getD i (Global.mk ByteArray.empty [])) (b.getD i (Global.mk ByteArray.empty []))=true)→(some (.v (.bool (eqG a b)),[.dead, .dead, .dead]):EvR)=no3:=fun h=>by
  rw [show eqG a b=false from decide_eq_false fun e=>h (e)]
 by_cases hl:a.length=b.length
 ·refine Goes.ends (k':=k88_l0) (s':=s88_l0 a b a a.length (0:Nat)) (.step fun J=> ?_) ?_
  ·rw [e88,if_neg (by simp [hl])]
   rfl
  refine Ends.all (rF:=no3) (fun i=>s88_l0 a b a a.length i) a.length (fun i=>sameG (a.getD i (Global.mk ByteArray.empty [])) (b.getD i (Global.mk ByteArray.empty []))=true) (fun i hi hp=>(EqfG.at hl h hi).1 hp) (fun i hi hp=>(EqfG.at hl h hi).2 hp) (fun hall=> ?_) (fun hx=>no fun e=>hx e.2)
  rw [show eqG a b=true from decide_eq_true (⟨hl,hall⟩)]
  refine Goes.ends (k':=k88_j0) (s':=s88_j0 a b) (.step fun J=> ?_) (.step fun J=>e88_j0 ..)
  rw [e88_l0]
  simp (disch:=first|omega|assumption|(rw [dT];omega)|(rw [dF];omega)) only [↓iP,↓iN,iT,iF,wrap_up,tN,Nat.zero_add]
 ·rw [no fun e=>hl e.1]
  refine .step fun J=> ?_
  rw [e88]
  rw [if_pos (by simp;omega)]
def S88:List (AV Ty)→T (AV Ty×List (AV Ty))
 |[.sl false 94 a, .sl false 94 b, .v (.func (.func 89) ⟨[]⟩ ⟨[]⟩)]=> .ite (cG a) (cG.dec a) (.ret (.v (.bool (eqG a b)),[.dead, .dead, .dead])) .fail
 |_=> .fail
theorem S88_ok (l:List (AV Ty)) (r:AV Ty) (outs:List (AV Ty)) (h:(S88 l).val=some (r,outs)):CallOk tb Try.prog 88 l r outs:=by
 unfold S88 at h
 split at h
 ·rename_i a b
  rcases ite_val h with ⟨e,h⟩|⟨_,h⟩
  ·cases h;exact eqfG_ok a b e
  ·cases h
 ·cases h
def cT (a:List Ev.Table):Prop:=a.length≤1000∧ ∀x,x∈a→x.funcs.length≤1000
instance cT.dec (a:List Ev.Table):Decidable (cT a):=by unfold cT;infer_instance
noncomputable def b90:Code:=bodyOf Try.f90
noncomputable def C90:Cfg Ty:=⟨fun
 |91=>some ([],S91)
 |_=>none,fun _=>false,32,0⟩
def U90:Cuts:=⟨fun
 |0=>some []
 |_=>none,fun
 |0=>some [(1,none),(2,none),(15,none),(16,none),(17,none)]
 |_=>none,fun _=>none⟩
noncomputable def k90_j0:List Item:=[.code (sndC (sndC (sndC b90)))]
noncomputable def k90_l0:List Item:=[.code (inC (inC (sndC (fstC (sndC (sndC b90)))))), .inLoop (inC (inC (sndC (fstC (sndC (sndC b90)))))), .inBlock 0, .code (sndC (sndC (sndC b90)))]
def a90 (a:List Table) (b:List Table):List (AV Ty):=[.sl false (96:Nat) a, .sl false (96:Nat) b, .v (.func (Fn.func (91:FuncId)) #[] #[])]
noncomputable def R90 (a:List Table) (b:List Table):St Ty→EvR:=resT tb C90 Try.f90.results.toList .keep (a90 a b)
def s90_l0 (a:List Table) (b:List Table) (v15:List Table) (v16:Int) (v17:Int):St Ty:=St.mk [(1, .sl false (96) b),(2, .v (.func (Fn.func (91:FuncId)) (Array.mk []) (Array.mk []))),(15, .sl false (96) v15),(16, .v (.int .i64 v16)),(17, .v (.int .i64 v17))] []
def s90_j0 (a:List Table) (b:List Table):St Ty:=St.mk [] []
theorem e90 (J a b):run tb C90 U90 J (R90 a b) 4096 [.code b90] ⟨slotsA (a90 a b) 0 0,heapA (a90 a b)⟩=
 if ((↑a.length:Int) != (↑b.length:Int))=true then
 some (.v (.bool false),[.dead, .dead, .dead])
 else
 J k90_l0 (s90_l0 a b a ((↑a.length:Int)) 0):=by kernel_rfl
theorem e90_l0 (J a b v15 v16 v17):run tb C90 U90 J (R90 a b) 4096 k90_l0 (s90_l0 a b v15 v16 v17)=
 if decide (v17<v16)=true then
 if 0≤v17 then
 if v17<(↑v15.length:Int) then
 if 0≤v17 then
 if v17<(↑b.length:Int) then
 if (v15.getD v17.toNat (Table.mk ByteArray.empty [])).funcs.length≤4611686018427387904 then
 if (!sameT (Table.mk (v15.getD v17.toNat (Table.mk ByteArray.empty [])).name (v15.getD v17.toNat (Table.mk ByteArray.empty [])).funcs) (Table.mk (b.getD v17.toNat (Table.mk ByteArray.empty [])).name (b.getD v17.toNat (Table.mk ByteArray.empty [])).funcs))=true then
 some (.v (.bool false),[.dead, .dead, .dead])
 else
 J k90_l0 (s90_l0 a b v15 v16 (IntKind.i64.wrap (v17+1)))
 else none
 else none
 else none
 else none
 else none
 else
 J k90_j0 (s90_j0 a b):=by kernel_rfl
theorem e90_j0 (J a b):run tb C90 U90 J (R90 a b) 4096 k90_j0 (s90_j0 a b)=
 some (.v (.bool true),[.dead, .dead, .dead]):=by kernel_rfl

theorem in90:Entered 90:=⟨Try.f90,b90,by kernel_rfl,by kernel_rfl,by kernel_rfl⟩
theorem fn90 (a b:List Ev.Table) {res:AV Ty} {outs:List (AV Ty)} (h:Ends C90 U90 (R90 a b) [.code b90] ⟨slotsA (a90 a b) 0 0,heapA (a90 a b)⟩ (some (res,outs))):CallOk tb Try.prog 90 (a90 a b) res outs:=by
 obtain ⟨n0,hn⟩:=h
 exact fn_ok (C:=C90) (U:=U90) (n:=0+n0) (q:= .keep) tbOk good (fun f mu S h=>by
  unfold C90 at h
  simp only at h
  split at h
  ·cases h;exact ⟨in91,S91_ok⟩
  ·cases h) mixed (fn:=Try.f90) (body:=b90) (by kernel_rfl) (by kernel_rfl) rfl rfl (by show 3≤32;omega) (hn 0)
theorem EqfT.at {a b:List Ev.Table} (hl:a.length=b.length) (h:cT a) {i:Nat} (hi:i<a.length):(sameT (a.getD i (Table.mk ByteArray.empty [])) (b.getD i (Table.mk ByteArray.empty []))=true→Goes C90 U90 (R90 a b) k90_l0 (s90_l0 a b a a.length i) k90_l0 (s90_l0 a b a a.length (i+1:Nat)))∧(¬sameT (a.getD i (Table.mk ByteArray.empty [])) (b.getD i (Table.mk ByteArray.empty []))=true→Ends C90 U90 (R90 a b) k90_l0 (s90_l0 a b a a.length i) no3):=by
 have h1:=h.1
 have h2:=h.2 _ (getD_mem (d:=(Table.mk ByteArray.empty [])) hi)
 have e1:Table.mk (a.getD i (Table.mk ByteArray.empty [])).name (a.getD i (Table.mk ByteArray.empty [])).funcs=a.getD i (Table.mk ByteArray.empty []):=rfl
 have e2:Table.mk (b.getD i (Table.mk ByteArray.empty [])).name (b.getD i (Table.mk ByteArray.empty [])).funcs=b.getD i (Table.mk ByteArray.empty []):=rfl
 have key: ∀(J:List Item→St Ty→EvR),run tb C90 U90 J (R90 a b) 4096 k90_l0 (s90_l0 a b a a.length i)=if sameT (a.getD i (Table.mk ByteArray.empty [])) (b.getD i (Table.mk ByteArray.empty []))=true then J k90_l0 (s90_l0 a b a a.length (i+1:Nat)) else no3:=fun J=>by
  rw [e90_l0]
  simp only [Int.toNat_natCast]
  simp only [e1,e2]
  simp (disch:=first|omega|assumption|(rw [dT];omega)|(rw [dF];omega)) only [↓iP,↓iN,iT,iF,wrap_up,tN,Nat.zero_add]
  cases sameT (a.getD i (Table.mk ByteArray.empty [])) (b.getD i (Table.mk ByteArray.empty []))<;>simp<;>rfl
 exact ⟨fun e=> .step fun J=>by rw [key,if_pos e],fun e=> .step fun J=>by rw [key,if_neg e]⟩
theorem eqfT_ok (a b:List Ev.Table) (h:cT a):CallOk tb Try.prog 90 (a90 a b) (.v (.bool (eqT a b))) [.dead, .dead, .dead]:=by
 refine fn90 a b ?_
 have no: ¬(a.length=b.length∧ ∀i,i<a.length→sameT (a.getD i (Table.mk ByteArray.empty [])) (b.getD i (Table.mk ByteArray.empty []))=true)→(some (.v (.bool (eqT a b)),[.dead, .dead, .dead]):EvR)=no3:=fun h=>by
  rw [show eqT a b=false from decide_eq_false fun e=>h (e)]
 by_cases hl:a.length=b.length
 ·refine Goes.ends (k':=k90_l0) (s':=s90_l0 a b a a.length (0:Nat)) (.step fun J=> ?_) ?_
  ·rw [e90,if_neg (by simp [hl])]
   rfl
  refine Ends.all (rF:=no3) (fun i=>s90_l0 a b a a.length i) a.length (fun i=>sameT (a.getD i (Table.mk ByteArray.empty [])) (b.getD i (Table.mk ByteArray.empty []))=true) (fun i hi hp=>(EqfT.at hl h hi).1 hp) (fun i hi hp=>(EqfT.at hl h hi).2 hp) (fun hall=> ?_) (fun hx=>no fun e=>hx e.2)
  rw [show eqT a b=true from decide_eq_true (⟨hl,hall⟩)]
  refine Goes.ends (k':=k90_j0) (s':=s90_j0 a b) (.step fun J=> ?_) (.step fun J=>e90_j0 ..)
  rw [e90_l0]
  simp (disch:=first|omega|assumption|(rw [dT];omega)|(rw [dF];omega)) only [↓iP,↓iN,iT,iF,wrap_up,tN,Nat.zero_add]
 ·rw [no fun e=>hl e.1]
  refine .step fun J=> ?_
  rw [e90]
  rw [if_pos (by simp;omega)]
def S90:List (AV Ty)→T (AV Ty×List (AV Ty))
 |[.sl false 96 a, .sl false 96 b, .v (.func (.func 91) ⟨[]⟩ ⟨[]⟩)]=> .ite (cT a) (cT.dec a) (.ret (.v (.bool (eqT a b)),[.dead, .dead, .dead])) .fail
 |_=> .fail
theorem S90_ok (l:List (AV Ty)) (r:AV Ty) (outs:List (AV Ty)) (h:(S90 l).val=some (r,outs)):CallOk tb Try.prog 90 l r outs:=by
 unfold S90 at h
 split at h
 ·rename_i a b
  rcases ite_val h with ⟨e,h⟩|⟨_,h⟩
  ·cases h;exact eqfT_ok a b e
  ·cases h
 ·cases h
end Go.Proofs.Ytggibjbcbicpjaa.Ev
namespace Go.Proofs.Ytggibjbcbicpjaa.Ev
open Go
set_option linter.unusedVariables false
set_option linter.unusedSimpArgs false
theorem blk_ext {a b:List Ev.Block}:a=b↔a.length=b.length∧ ∀i,i<a.length→eqIns (a.getD i (Block.mk [])).ins (b.getD i (Block.mk [])).ins=true:=by
 constructor
 ·intro e
  subst e
  exact ⟨rfl,fun i _=>decide_eq_true rfl⟩
 ·intro ⟨hl,h⟩
  refine List.ext_getElem hl fun i h1 h2=> ?_
  have:=of_decide_eq_true (h i h1)
  rw [List.getD_eq_getElem?_getD,List.getD_eq_getElem?_getD,List.getElem?_eq_getElem h1,List.getElem?_eq_getElem h2] at this
  exact Block.ext this
noncomputable def b55:Code:=bodyOf Try.f55
noncomputable def C55:Cfg Ty:=⟨fun
 |94=>some ([],S94)
 |95=>some ([],S95)
 |_=>none,fun _=>false,63,0⟩
def U55:Cuts:=⟨fun
 |0=>some []
 |_=>none,fun
 |0=>some [(2,none),(3,none),(44,none),(45,none)]
 |_=>none,fun _=>none⟩
noncomputable def k55_j0:List Item:=[.code (sndC (sndC (sndC b55)))]
noncomputable def k55_l0:List Item:=[.code (inC (inC (sndC (fstC (sndC (sndC b55)))))), .inLoop (inC (inC (sndC (fstC (sndC (sndC b55)))))), .inBlock 0, .code (sndC (sndC (sndC b55)))]
def a55 (a:Func) (b:Func):List (AV Ty):=[.agg [.v (.string a.name), .v (.bool a.out), .sl false (3:Nat) a.params, .v (.int .i64 a.result), .sl false (44:Nat) a.blocks], .agg [.v (.string b.name), .v (.bool b.out), .sl false (3:Nat) b.params, .v (.int .i64 b.result), .sl false (44:Nat) b.blocks]]
noncomputable def R55 (a:Func) (b:Func):St Ty→EvR:=resT tb C55 Try.f55.results.toList .keep (a55 a b)
def s55_l0 (a:Func) (b:Func) (v44:Int) (v45:Int) (h0:List Func) (h1:List Func):St Ty:=St.mk [(2, .ptr (0) [] (0) (0)),(3, .ptr (1) [] (0) (0)),(44, .v (.int .i64 v44)),(45, .v (.int .i64 v45))] [some (Root.mk (33) false h0),some (Root.mk (33) false h1)]
def s55_j0 (a:Func) (b:Func):St Ty:=St.mk [] []
theorem e55 (J a b):run tb C55 U55 J (R55 a b) 4096 [.code b55] ⟨slotsA (a55 a b) 0 0,heapA (a55 a b)⟩=
 if (!a.name.toList == b.name.toList)=false then
 if (!a.out == b.out)=false then
 if (a.result != b.result)=false then
 if a.params.length≤4611686018427387904 then
 if (!same3 a.params b.params)=false then
 if ((↑a.blocks.length:Int) != (↑b.blocks.length:Int))=true then
 some (.v (.bool false),[.dead, .dead])
 else
 J k55_l0 (s55_l0 a b ((↑a.blocks.length:Int)) 0 ([Func.mk a.name a.out a.params a.result a.blocks]) ([Func.mk b.name b.out b.params b.result b.blocks]))
 else
 some (.v (.bool false),[.dead, .dead])
 else none
 else
 some (.v (.bool false),[.dead, .dead])
 else
 some (.v (.bool false),[.dead, .dead])
 else
 some (.v (.bool false),[.dead, .dead]):=by kernel_rfl
theorem e55_l0 (J a b v44 v45 h0 h1):run tb C55 U55 J (R55 a b) 4096 k55_l0 (s55_l0 a b v44 v45 h0 h1)=
 if decide (v45<v44)=true then
 if 0≤v45 then
 if v45<(↑(h0.getD (0) (Func.mk ByteArray.empty false [] 0 [])).blocks.length:Int) then
 if 0≤v45 then
 if v45<(↑(h1.getD (0) (Func.mk ByteArray.empty false [] 0 [])).blocks.length:Int) then
 if cI ((h0.getD (0) (Func.mk ByteArray.empty false [] 0 [])).blocks.getD v45.toNat (Block.mk [])).ins then
 if (!eqIns ((h0.getD (0) (Func.mk ByteArray.empty false [] 0 [])).blocks.getD v45.toNat (Block.mk [])).ins ((h1.getD (0) (Func.mk ByteArray.empty false [] 0 [])).blocks.getD v45.toNat (Block.mk [])).ins)=true then
 some (.v (.bool false),[.dead, .dead])
 else
 J k55_l0 (s55_l0 a b v44 (IntKind.i64.wrap (v45+1)) h0 h1)
 else none
 else none
 else none
 else none
 else none
 else
 J k55_j0 (s55_j0 a b):=by kernel_rfl
theorem e55_j0 (J a b):run tb C55 U55 J (R55 a b) 4096 k55_j0 (s55_j0 a b)=
 some (.v (.bool true),[.dead, .dead]):=by kernel_rfl

theorem in55:Entered 55:=⟨Try.f55,b55,by kernel_rfl,by kernel_rfl,by kernel_rfl⟩
theorem fn55 (a b:Ev.Func) {res:AV Ty} {outs:List (AV Ty)} (h:Ends C55 U55 (R55 a b) [.code b55] ⟨slotsA (a55 a b) 0 0,heapA (a55 a b)⟩ (some (res,outs))):CallOk tb Try.prog 55 (a55 a b) res outs:=by
 obtain ⟨n0,hn⟩:=h
 exact fn_ok (C:=C55) (U:=U55) (n:=0+n0) (q:= .keep) tbOk good (fun f mu S h=>by
  unfold C55 at h
  simp only at h
  split at h
  ·cases h;exact ⟨in94,S94_ok⟩
  ·cases h;exact ⟨in95,S95_ok⟩
  ·cases h) mixed (fn:=Try.f55) (body:=b55) (by kernel_rfl) (by kernel_rfl) rfl rfl (by show 2≤63;omega) (hn 0)
theorem SameF.at {a b:Ev.Func} (hl:a.blocks.length=b.blocks.length) (h:okF a) {i:Nat} (hi:i<a.blocks.length):(eqIns (a.blocks.getD i (Block.mk [])).ins (b.blocks.getD i (Block.mk [])).ins=true→Goes C55 U55 (R55 a b) k55_l0 (s55_l0 a b a.blocks.length i [a] [b]) k55_l0 (s55_l0 a b a.blocks.length (i+1:Nat) [a] [b]))∧
  (¬eqIns (a.blocks.getD i (Block.mk [])).ins (b.blocks.getD i (Block.mk [])).ins=true→Ends C55 U55 (R55 a b) k55_l0 (s55_l0 a b a.blocks.length i [a] [b]) noE):=by
 have h1:=h.2.1
 have h2:cI (a.blocks.getD i (Block.mk [])).ins:=h.blk hi
 have key: ∀(J:List Item→St Ty→EvR),run tb C55 U55 J (R55 a b) 4096 k55_l0 (s55_l0 a b a.blocks.length i [a] [b])=if eqIns (a.blocks.getD i (Block.mk [])).ins (b.blocks.getD i (Block.mk [])).ins=true then J k55_l0 (s55_l0 a b a.blocks.length (i+1:Nat) [a] [b]) else noE:=fun J=>by
  rw [e55_l0]
  simp only [Int.toNat_natCast,List.getD_cons_zero]
  simp (disch:=first|omega|assumption|(rw [dT];omega)|(rw [dF];omega)) only [↓iP,↓iN,iT,iF,wrap_up,tN,Nat.zero_add]
  cases eqIns (a.blocks.getD i (Block.mk [])).ins (b.blocks.getD i (Block.mk [])).ins<;>simp<;>rfl
 exact ⟨fun e=> .step fun J=>by rw [key,if_pos e],fun e=> .step fun J=>by rw [key,if_neg e]⟩
theorem irSameFunc_ok (a b:Ev.Func) (h:okF a):CallOk tb Try.prog 55 (a55 a b) (.v (.bool (sameFun a b))) [.dead, .dead]:=by
 refine fn55 a b ?_
 have hp:a.params.length≤4611686018427387904:=by have:=h.1;omega
 by_cases h1:(a.name.toList == b.name.toList)=true
 ·by_cases h2:(a.out == b.out)=true
  ·by_cases h3:(a.result == b.result)=true
   ·by_cases h4:same3 a.params b.params=true
    ·have hs:sameFun a b=decide (a.blocks=b.blocks):=by unfold sameFun;simp only [h1,h2,h3,h4,Bool.true_and]
     rw [hs]
     have no: ¬(a.blocks.length=b.blocks.length∧ ∀i,i<a.blocks.length→eqIns (a.blocks.getD i (Block.mk [])).ins (b.blocks.getD i (Block.mk [])).ins=true)→(some (.v (.bool (decide (a.blocks=b.blocks))),[.dead, .dead]):EvR)=noE:=fun h=>by
      rw [decide_eq_false fun e=>h (blk_ext.1 e)]
     by_cases hl:a.blocks.length=b.blocks.length
     ·refine Goes.ends (k':=k55_l0) (s':=s55_l0 a b a.blocks.length (0:Nat) [a] [b]) (.step fun J=> ?_) ?_
      ·rw [e55]
       simp only [h1,h2,h3,h4,bne,Bool.not_true,hp,if_true,hl]
       simp
      refine Ends.all (rF:=noE) (fun i=>s55_l0 a b a.blocks.length i [a] [b]) a.blocks.length _ (fun i hi hp=>(SameF.at hl h hi).1 hp) (fun i hi hp=>(SameF.at hl h hi).2 hp) (fun hall=> ?_) (fun hx=>no fun e=>hx e.2)
      rw [decide_eq_true (blk_ext.2 ⟨hl,hall⟩)]
      refine Goes.ends (k':=k55_j0) (s':=s55_j0 a b) (.step fun J=> ?_) (.step fun J=>e55_j0 ..)
      rw [e55_l0]
      simp (disch:=first|omega|assumption|(rw [dT];omega)|(rw [dF];omega)) only [↓iP,↓iN,iT,iF,wrap_up,tN,Nat.zero_add]
     ·rw [no fun e=>hl e.1]
      refine .step fun J=> ?_
      have:((a.blocks.length:Int) != b.blocks.length)=true:=by simp;omega
      rw [e55]
      simp only [h1,h2,h3,h4,bne,Bool.not_true,hp,if_true] at this⊢
      simp only [this,if_true]
    ·have hs:sameFun a b=false:=by unfold sameFun;simp [h4]
     rw [hs]
     refine .step fun J=> ?_
     rw [e55]
     simp only [h1,h2,h3,h4,bne,Bool.not_true,hp,if_true]
     simp
   ·have hs:sameFun a b=false:=by unfold sameFun;simp [h3]
    rw [hs]
    refine .step fun J=> ?_
    rw [e55]
    simp only [h1,h2,h3,bne,Bool.not_true,if_true]
    simp
  ·have hs:sameFun a b=false:=by unfold sameFun;simp [h2]
   rw [hs]
   refine .step fun J=> ?_
   rw [e55]
   simp only [h1,h2,Bool.not_true,if_true]
   simp
 ·have hs:sameFun a b=false:=by unfold sameFun;simp [h1]
  rw [hs]
  refine .step fun J=> ?_
  rw [e55]
  simp only [h1]
  simp
def S55:List (AV Ty)→T (AV Ty×List (AV Ty))
 |[.agg x, .agg y]=>match cod33.dec false x,cod33.dec false y with
  |some a,some b=> .ite (okF a) (okF.dec a) (.ret (.v (.bool (sameFun a b)),[.dead, .dead])) .fail
  |_,_=> .fail
 |_=> .fail
theorem S55_ok (l:List (AV Ty)) (r:AV Ty) (outs:List (AV Ty)) (h:(S55 l).val=some (r,outs)):CallOk tb Try.prog 55 l r outs:=by
 unfold S55 at h
 split at h
 ·rename_i x y
  split at h
  ·rename_i a b e1 e2
   rcases ite_val h with ⟨e,h⟩|⟨_,h⟩
   ·cases h
    have h1:=cod33_ok.dec false x a e1
    have h2:=cod33_ok.dec false y b e2
    subst h1 h2
    exact irSameFunc_ok a b e
   ·cases h
  ·cases h
 ·cases h
end Go.Proofs.Ytggibjbcbicpjaa.Ev
namespace Go.Proofs.Ytggibjbcbicpjaa.Ev
open Go
set_option linter.unusedVariables false
set_option linter.unusedSimpArgs false
def cF (a:List Ev.Func):Prop:=a.length≤1000∧ ∀x,x∈a→okF x
instance cF.dec (a:List Ev.Func):Decidable (cF a):=by unfold cF;infer_instance
noncomputable def b92:Code:=bodyOf Try.f92
noncomputable def C92:Cfg Ty:=⟨fun
 |55=>some ([],S55)
 |_=>none,fun _=>false,32,0⟩
def U92:Cuts:=⟨fun
 |0=>some []
 |_=>none,fun
 |0=>some [(1,none),(2,none),(15,none),(16,none),(17,none)]
 |_=>none,fun _=>none⟩
noncomputable def k92_j0:List Item:=[.code (sndC (sndC (sndC b92)))]
noncomputable def k92_l0:List Item:=[.code (inC (inC (sndC (fstC (sndC (sndC b92)))))), .inLoop (inC (inC (sndC (fstC (sndC (sndC b92)))))), .inBlock 0, .code (sndC (sndC (sndC b92)))]
def a92 (a:List Func) (b:List Func):List (AV Ty):=[.sl false (33:Nat) a, .sl false (33:Nat) b, .v (.func (Fn.func (55:FuncId)) #[] #[])]
noncomputable def R92 (a:List Func) (b:List Func):St Ty→EvR:=resT tb C92 Try.f92.results.toList .keep (a92 a b)
def s92_l0 (a:List Func) (b:List Func) (v15:List Func) (v16:Int) (v17:Int):St Ty:=St.mk [(1, .sl false (33) b),(2, .v (.func (Fn.func (55:FuncId)) (Array.mk []) (Array.mk []))),(15, .sl false (33) v15),(16, .v (.int .i64 v16)),(17, .v (.int .i64 v17))] []
def s92_j0 (a:List Func) (b:List Func):St Ty:=St.mk [] []
theorem e92 (J a b):run tb C92 U92 J (R92 a b) 4096 [.code b92] ⟨slotsA (a92 a b) 0 0,heapA (a92 a b)⟩=
 if ((↑a.length:Int) != (↑b.length:Int))=true then
 some (.v (.bool false),[.dead, .dead, .dead])
 else
 J k92_l0 (s92_l0 a b a ((↑a.length:Int)) 0):=by kernel_rfl
theorem e92_l0 (J a b v15 v16 v17):run tb C92 U92 J (R92 a b) 4096 k92_l0 (s92_l0 a b v15 v16 v17)=
 if decide (v17<v16)=true then
 if 0≤v17 then
 if v17<(↑v15.length:Int) then
 if 0≤v17 then
 if v17<(↑b.length:Int) then
 if okF (Func.mk (v15.getD v17.toNat (Func.mk ByteArray.empty false [] 0 [])).name (v15.getD v17.toNat (Func.mk ByteArray.empty false [] 0 [])).out (v15.getD v17.toNat (Func.mk ByteArray.empty false [] 0 [])).params (v15.getD v17.toNat (Func.mk ByteArray.empty false [] 0 [])).result (v15.getD v17.toNat (Func.mk ByteArray.empty false [] 0 [])).blocks) then
 if (!sameFun (Func.mk (v15.getD v17.toNat (Func.mk ByteArray.empty false [] 0 [])).name (v15.getD v17.toNat (Func.mk ByteArray.empty false [] 0 [])).out (v15.getD v17.toNat (Func.mk ByteArray.empty false [] 0 [])).params (v15.getD v17.toNat (Func.mk ByteArray.empty false [] 0 [])).result (v15.getD v17.toNat (Func.mk ByteArray.empty false [] 0 [])).blocks) (Func.mk (b.getD v17.toNat (Func.mk ByteArray.empty false [] 0 [])).name (b.getD v17.toNat (Func.mk ByteArray.empty false [] 0 [])).out (b.getD v17.toNat (Func.mk ByteArray.empty false [] 0 [])).params (b.getD v17.toNat (Func.mk ByteArray.empty false [] 0 [])).result (b.getD v17.toNat (Func.mk ByteArray.empty false [] 0 [])).blocks))=true then
 some (.v (.bool false),[.dead, .dead, .dead])
 else
 J k92_l0 (s92_l0 a b v15 v16 (IntKind.i64.wrap (v17+1)))
 else none
 else none
 else none
 else none
 else none
 else
 J k92_j0 (s92_j0 a b):=by kernel_rfl
theorem e92_j0 (J a b):run tb C92 U92 J (R92 a b) 4096 k92_j0 (s92_j0 a b)=
 some (.v (.bool true),[.dead, .dead, .dead]):=by kernel_rfl

theorem in92:Entered 92:=⟨Try.f92,b92,by kernel_rfl,by kernel_rfl,by kernel_rfl⟩
theorem fn92 (a b:List Ev.Func) {res:AV Ty} {outs:List (AV Ty)} (h:Ends C92 U92 (R92 a b) [.code b92] ⟨slotsA (a92 a b) 0 0,heapA (a92 a b)⟩ (some (res,outs))):CallOk tb Try.prog 92 (a92 a b) res outs:=by
 obtain ⟨n0,hn⟩:=h
 exact fn_ok (C:=C92) (U:=U92) (n:=0+n0) (q:= .keep) tbOk good (fun f mu S h=>by
  unfold C92 at h
  simp only at h
  split at h
  ·cases h;exact ⟨in55,S55_ok⟩
  ·cases h) mixed (fn:=Try.f92) (body:=b92) (by kernel_rfl) (by kernel_rfl) rfl rfl (by show 3≤32;omega) (hn 0)
theorem EqfF.at {a b:List Ev.Func} (hl:a.length=b.length) (h:cF a) {i:Nat} (hi:i<a.length):(sameFun (a.getD i (Func.mk ByteArray.empty false [] 0 [])) (b.getD i (Func.mk ByteArray.empty false [] 0 []))=true→Goes C92 U92 (R92 a b) k92_l0 (s92_l0 a b a a.length i) k92_l0 (s92_l0 a b a a.length (i+1:Nat)))∧(¬sameFun (a.getD i (Func.mk ByteArray.empty false [] 0 [])) (b.getD i (Func.mk ByteArray.empty false [] 0 []))=true→Ends C92 U92 (R92 a b) k92_l0 (s92_l0 a b a a.length i) no3):=by
 have h1:=h.1
 have h2:=h.2 _ (getD_mem (d:=(Func.mk ByteArray.empty false [] 0 [])) hi)
 have e1:(Func.mk (a.getD i (Func.mk ByteArray.empty false [] 0 [])).name (a.getD i (Func.mk ByteArray.empty false [] 0 [])).out (a.getD i (Func.mk ByteArray.empty false [] 0 [])).params (a.getD i (Func.mk ByteArray.empty false [] 0 [])).result (a.getD i (Func.mk ByteArray.empty false [] 0 [])).blocks)=a.getD i (Func.mk ByteArray.empty false [] 0 []):=rfl
 have e2:(Func.mk (b.getD i (Func.mk ByteArray.empty false [] 0 [])).name (b.getD i (Func.mk ByteArray.empty false [] 0 [])).out (b.getD i (Func.mk ByteArray.empty false [] 0 [])).params (b.getD i (Func.mk ByteArray.empty false [] 0 [])).result (b.getD i (Func.mk ByteArray.empty false [] 0 [])).blocks)=b.getD i (Func.mk ByteArray.empty false [] 0 []):=rfl
 have key: ∀(J:List Item→St Ty→EvR),run tb C92 U92 J (R92 a b) 4096 k92_l0 (s92_l0 a b a a.length i)=if sameFun (a.getD i (Func.mk ByteArray.empty false [] 0 [])) (b.getD i (Func.mk ByteArray.empty false [] 0 []))=true then J k92_l0 (s92_l0 a b a a.length (i+1:Nat)) else no3:=fun J=>by
  rw [e92_l0]
  simp only [Int.toNat_natCast]
  simp only [e1,e2]
  simp (disch:=first|omega|assumption|(rw [dT];omega)|(rw [dF];omega)) only [↓iP,↓iN,iT,iF,wrap_up,tN,Nat.zero_add]
  cases sameFun (a.getD i (Func.mk ByteArray.empty false [] 0 [])) (b.getD i (Func.mk ByteArray.empty false [] 0 []))<;>simp<;>rfl
 exact ⟨fun e=> .step fun J=>by rw [key,if_pos e],fun e=> .step fun J=>by rw [key,if_neg e]⟩
theorem eqfF_ok (a b:List Ev.Func) (h:cF a):CallOk tb Try.prog 92 (a92 a b) (.v (.bool (eqF a b))) [.dead, .dead, .dead]:=by
 refine fn92 a b ?_
 have no: ¬(a.length=b.length∧ ∀i,i<a.length→sameFun (a.getD i (Func.mk ByteArray.empty false [] 0 [])) (b.getD i (Func.mk ByteArray.empty false [] 0 []))=true)→(some (.v (.bool (eqF a b)),[.dead, .dead, .dead]):EvR)=no3:=fun h=>by
  rw [show eqF a b=false from decide_eq_false fun e=>h (e)]
 by_cases hl:a.length=b.length
 ·refine Goes.ends (k':=k92_l0) (s':=s92_l0 a b a a.length (0:Nat)) (.step fun J=> ?_) ?_
  ·rw [e92,if_neg (by simp [hl])]
   rfl
  refine Ends.all (rF:=no3) (fun i=>s92_l0 a b a a.length i) a.length (fun i=>sameFun (a.getD i (Func.mk ByteArray.empty false [] 0 [])) (b.getD i (Func.mk ByteArray.empty false [] 0 []))=true) (fun i hi hp=>(EqfF.at hl h hi).1 hp) (fun i hi hp=>(EqfF.at hl h hi).2 hp) (fun hall=> ?_) (fun hx=>no fun e=>hx e.2)
  rw [show eqF a b=true from decide_eq_true (⟨hl,hall⟩)]
  refine Goes.ends (k':=k92_j0) (s':=s92_j0 a b) (.step fun J=> ?_) (.step fun J=>e92_j0 ..)
  rw [e92_l0]
  simp (disch:=first|omega|assumption|(rw [dT];omega)|(rw [dF];omega)) only [↓iP,↓iN,iT,iF,wrap_up,tN,Nat.zero_add]
 ·rw [no fun e=>hl e.1]
  refine .step fun J=> ?_
  rw [e92]
  rw [if_pos (by simp;omega)]
def S92:List (AV Ty)→T (AV Ty×List (AV Ty))
 |[.sl false 33 a, .sl false 33 b, .v (.func (.func 55) ⟨[]⟩ ⟨[]⟩)]=> .ite (cF a) (cF.dec a) (.ret (.v (.bool (eqF a b)),[.dead, .dead, .dead])) .fail
 |_=> .fail
theorem S92_ok (l:List (AV Ty)) (r:AV Ty) (outs:List (AV Ty)) (h:(S92 l).val=some (r,outs)):CallOk tb Try.prog 92 l r outs:=by
 unfold S92 at h
 split at h
 ·rename_i a b
  rcases ite_val h with ⟨e,h⟩|⟨_,h⟩
  ·cases h;exact eqfF_ok a b e
  ·cases h
 ·cases h
end Go.Proofs.Ytggibjbcbicpjaa.Ev
namespace Go.Proofs.Ytggibjbcbicpjaa.Ev
open Go
set_option linter.unusedVariables false
set_option linter.unusedSimpArgs false
theorem sameMo_eq (a b:Ev.Module):sameMo a b=(eqX a.externs b.externs && (eqG a.globals b.globals && (eqT a.tables b.tables && eqF a.funcs b.funcs))):=by
 unfold sameMo eqX eqG eqT eqF
 rw [←Bool.decide_and,←Bool.decide_and,←Bool.decide_and]
 refine decide_eq_decide.2 ⟨fun ⟨⟨h1,h2,h3,h4⟩,h5,h6,h7,h8⟩=>⟨⟨h1,h5⟩,⟨h2,h6⟩,⟨h3,h7⟩,h4,h8⟩,fun ⟨⟨h1,h5⟩,⟨h2,h6⟩,⟨h3,h7⟩,h4,h8⟩=>⟨⟨h1,h2,h3,h4⟩,h5,h6,h7,h8⟩⟩
noncomputable def b48:Code:=bodyOf Try.f48
noncomputable def C48:Cfg Ty:=⟨fun
 |86=>some ([],S86)
 |88=>some ([],S88)
 |90=>some ([],S90)
 |92=>some ([],S92)
 |_=>none,fun _=>false,31,0⟩
def U48:Cuts:=⟨fun _=>none,fun _=>none,fun _=>none⟩
def a48 (a:Module) (b:Module):List (AV Ty):=[.agg [.sl false (91:Nat) a.externs, .sl false (94:Nat) a.globals, .sl false (96:Nat) a.tables, .sl false (33:Nat) a.funcs], .agg [.sl false (91:Nat) b.externs, .sl false (94:Nat) b.globals, .sl false (96:Nat) b.tables, .sl false (33:Nat) b.funcs]]
noncomputable def R48 (a:Module) (b:Module):St Ty→EvR:=resT tb C48 Try.f48.results.toList .keep (a48 a b)
theorem e48 (J a b):run tb C48 U48 J (R48 a b) 4096 [.code b48] ⟨slotsA (a48 a b) 0 0,heapA (a48 a b)⟩=
 if cX a.externs then
 if eqX a.externs b.externs=true then
 if cG a.globals then
 if eqG a.globals b.globals=true then
 if cT a.tables then
 if eqT a.tables b.tables=true then
 if cF a.funcs then
 some (.v (.bool (eqF a.funcs b.funcs)),[.dead, .dead])
 else none
 else
 some (.v (.bool false),[.dead, .dead])
 else none
 else
 some (.v (.bool false),[.dead, .dead])
 else none
 else
 some (.v (.bool false),[.dead, .dead])
 else none:=by kernel_rfl

theorem in48:Entered 48:=⟨Try.f48,b48,by kernel_rfl,by kernel_rfl,by kernel_rfl⟩
theorem fn48 (a b:Ev.Module) {res:AV Ty} {outs:List (AV Ty)} (h:Ends C48 U48 (R48 a b) [.code b48] ⟨slotsA (a48 a b) 0 0,heapA (a48 a b)⟩ (some (res,outs))):CallOk tb Try.prog 48 (a48 a b) res outs:=by
 obtain ⟨n0,hn⟩:=h
 exact fn_ok (C:=C48) (U:=U48) (n:=0+n0) (q:= .keep) tbOk good (fun f mu S h=>by
  unfold C48 at h
  simp only at h
  split at h
  ·cases h;exact ⟨in86,S86_ok⟩
  ·cases h;exact ⟨in88,S88_ok⟩
  ·cases h;exact ⟨in90,S90_ok⟩
  ·cases h;exact ⟨in92,S92_ok⟩
  ·cases h) mixed (fn:=Try.f48) (body:=b48) (by kernel_rfl) (by kernel_rfl) rfl rfl (by show 2≤31;omega) (hn 0)
theorem irSame_ok (a b:Ev.Module) (h:okM a):CallOk tb Try.prog 48 (a48 a b) (.v (.bool (sameMo a b))) [.dead, .dead]:=by
 obtain ⟨⟨a1,a2,a3,a4⟩,h1,h2,h3,h4⟩:=h
 have c1:cX a.externs:=⟨a1,h1⟩
 have c2:cG a.globals:=⟨a2,h2⟩
 have c3:cT a.tables:=⟨a3,h3⟩
 have c4:cF a.funcs:=⟨a4,h4⟩
 refine fn48 a b (.step fun J=> ?_)
 rw [e48,sameMo_eq]
 simp only [c1,c2,c3,c4,if_true]
 cases eqX a.externs b.externs<;>cases eqG a.globals b.globals<;>cases eqT a.tables b.tables<;>simp
def S48:List (AV Ty)→T (AV Ty×List (AV Ty))
 |[.agg x, .agg y]=>match cod27.dec false x,cod27.dec false y with
  |some a,some b=> .ite (okM a) (okM.dec a) (.ret (.v (.bool (sameMo a b)),[.dead, .dead])) .fail
  |_,_=> .fail
 |_=> .fail
theorem S48_ok (l:List (AV Ty)) (r:AV Ty) (outs:List (AV Ty)) (h:(S48 l).val=some (r,outs)):CallOk tb Try.prog 48 l r outs:=by
 unfold S48 at h
 split at h
 ·rename_i x y
  split at h
  ·rename_i a b e1 e2
   rcases ite_val h with ⟨e,h⟩|⟨_,h⟩
   ·cases h
    have h1:=cod27_ok.dec false x a e1
    have h2:=cod27_ok.dec false y b e2
    subst h1 h2
    exact irSame_ok a b e
   ·cases h
  ·cases h
 ·cases h
def s22_l2 (f:Func) (v4:Int) (v5:Int) (h0:List Func) (h1:List Int):St Ty:=St.mk [(1, .ptr (0) [] (0) (0)),(3, .ref (1) [] none false),(4, .v (.int .i64 v4)),(5, .v (.int .i64 v5))] [some (Root.mk (33) false h0),some (Root.mk (3) true h1)]
section
variable {f:Ev.Func}
abbrev vb (f:Ev.Func) (i k:Nat) (out:List Int):St Ty:=s22_l2 f i k [f] out
end
end Go.Proofs.Ytggibjbcbicpjaa.Ev
namespace Go.Proofs.Ytggibjbcbicpjaa.Ev
open Go
set_option linter.unusedVariables false
set_option linter.unusedSimpArgs false
section
variable {C:Cfg Ty} {U:Cuts} {Rt:St Ty→EvR} {k k' k'':List Item} {s s' s'':St Ty} {r rF:EvR} {Q Q':Prop} {rr:Bool→EvR}
def Way (C:Cfg Ty) (U:Cuts) (Rt:St Ty→EvR) (rF:EvR) (k:List Item) (s:St Ty) (k':List Item) (s':St Ty) (Q:Prop):Prop:=Ends C U Rt k s rF∨(Q∧Goes C U Rt k s k' s')
theorem Way.go (q:Q) (h:Goes C U Rt k s k' s'):Way C U Rt rF k s k' s' Q:= .inr ⟨q,h⟩
theorem Way.trans (h:Way C U Rt rF k s k' s' Q) (g:Q→Way C U Rt rF k' s' k'' s'' Q'):Way C U Rt rF k s k'' s'' (Q∧Q'):=by
 rcases h with h|⟨q,h⟩
 ·exact .inl h
 ·rcases g q with g|⟨q',g⟩
  ·exact .inl (h.ends g)
  ·exact .inr ⟨⟨q,q'⟩,h.trans g⟩
theorem Way.mono (h:Way C U Rt rF k s k' s' Q) (g:Q→Q'):Way C U Rt rF k s k' s' Q':=h.imp id fun ⟨q,h⟩=>⟨g q,h⟩
theorem Goes.way (h:Goes C U Rt k s k' s') (g:Way C U Rt rF k' s' k'' s'' Q):Way C U Rt rF k s k'' s'' Q:=by
 rcases g with g|⟨q,g⟩
 ·exact .inl (h.ends g)
 ·exact .inr ⟨q,h.trans g⟩
theorem Way.then (h:Way C U Rt rF k s k' s' Q) (g:Q→Goes C U Rt k' s' k'' s''):Way C U Rt rF k s k'' s'' Q:=by
 rcases h with h|⟨q,h⟩
 ·exact .inl h
 ·exact .inr ⟨q,h.trans (g q)⟩
theorem Way.upto (st:Nat→St Ty) (N:Nat) (P:Nat→Prop) (h: ∀i,i<N→(∀j,j<i→P j)→Way C U Rt rF k (st i) k (st (i+1)) (P i)): ∀i,i≤N→Way C U Rt rF k (st 0) k (st i) (∀j,j<i→P j)
 |0,_=> .inr ⟨fun j hj=>absurd hj (Nat.not_lt_zero _), .refl⟩
 |i+1,hi=>by
  rcases Way.upto st N P h i (by omega) with g|⟨q,g⟩
  ·exact .inl g
  ·rcases h i (by omega) q with g'|⟨q',g'⟩
   ·exact .inl (g.ends g')
   ·refine .inr ⟨fun j hj=> ?_,g.trans g'⟩
    rcases Nat.eq_or_lt_of_le (Nat.le_of_lt_succ hj) with e|e
    ·subst e;exact q'
    ·exact q j e
def Says (C:Cfg Ty) (U:Cuts) (Rt:St Ty→EvR) (rr:Bool→EvR) (k:List Item) (s:St Ty) (Q:Prop):Prop:= ∃b,Ends C U Rt k s (rr b)∧(b=true→Q)
theorem Says.no (h:Ends C U Rt k s (rr false)):Says C U Rt rr k s Q:=⟨false,h,fun h=>by cases h⟩
theorem Says.yes (h:Ends C U Rt k s (rr true)) (q:Q):Says C U Rt rr k s Q:=⟨true,h,fun _=>q⟩
theorem Way.says (h:Way C U Rt (rr false) k s k' s' Q) (g:Q→Says C U Rt rr k' s' Q'):Says C U Rt rr k s (Q∧Q'):=by
 rcases h with h|⟨q,h⟩
 ·exact .no h
 ·obtain ⟨b,g1,g2⟩:=g q
  exact ⟨b,h.ends g1,fun hb=>⟨q,g2 hb⟩⟩
theorem Says.mono (h:Says C U Rt rr k s Q) (g:Q→Q'):Says C U Rt rr k s Q':=by
 obtain ⟨b,h1,h2⟩:=h
 exact ⟨b,h1,fun hb=>g (h2 hb)⟩
theorem Goes.says (h:Goes C U Rt k s k' s') (g:Says C U Rt rr k' s' Q):Says C U Rt rr k s Q:=by
 obtain ⟨b,h1,h2⟩:=g
 exact ⟨b,h.ends h1,h2⟩
end
abbrev Jt:=List Item→St Ty→EvR
section
variable {C:Cfg Ty} {U:Cuts} {Rt:St Ty→EvR} {k k' k'':List Item} {s s' s'':St Ty} {r rF:EvR} {Q Q':Prop} {rr:Bool→EvR} {F A B:Jt→EvR} {Z:(Jt→EvR)→Prop}
theorem tree_ite {c:Prop} {i:Decidable c} (ha:c→Z A) (hb: ¬c→Z B):Z (fun J=> @ite _ c i (A J) (B J)):=by
 by_cases h:c
 ·have:(fun J=> @ite _ c i (A J) (B J))=A:=funext fun J=>if_pos h
  rw [this];exact ha h
 ·have:(fun J=> @ite _ c i (A J) (B J))=B:=funext fun J=>if_neg h
  rw [this];exact hb h
theorem tree_dt {c:Prop} {j:Decidable c} {i:Decidable (decide c=true)} (ha:c→Z A) (hb: ¬c→Z B):Z (fun J=> @ite _ (decide c=true) i (A J) (B J)):=
 tree_ite (fun h=>ha (of_decide_eq_true h)) (fun h=>hb fun e=>h (decide_eq_true e))
theorem tree_df {c:Prop} {j:Decidable c} {i:Decidable (decide c=false)} (ha: ¬c→Z A) (hb:c→Z B):Z (fun J=> @ite _ (decide c=false) i (A J) (B J)):=
 tree_ite (fun h=>ha (of_decide_eq_false h)) (fun h=>hb (Classical.byContradiction fun e=>h (decide_eq_false e)))
theorem tree_et {x y:Int} {i:Decidable ((x == y)=true)} (ha:x=y→Z A) (hb:x≠y→Z B):Z (fun J=> @ite _ ((x == y)=true) i (A J) (B J)):=
 tree_ite (fun h=>ha (beq_iff_eq.1 h)) (fun h=>hb fun e=>h (beq_iff_eq.2 e))
theorem tree_ef {x y:Int} {i:Decidable ((x == y)=false)} (ha:x≠y→Z A) (hb:x=y→Z B):Z (fun J=> @ite _ ((x == y)=false) i (A J) (B J)):=
 tree_ite (fun h=>ha fun e=>by rw [beq_iff_eq.2 e] at h;cases h) (fun h=>hb (Classical.byContradiction fun e=>h (beq_eq_false_iff_ne.2 e)))
theorem tree_qt {x y:Int} {i:Decidable ((x != y)=true)} (ha:x≠y→Z A) (hb:x=y→Z B):Z (fun J=> @ite _ ((x != y)=true) i (A J) (B J)):=
 tree_ite (fun h=>ha (by simpa using h)) (fun h=>hb (by simpa using h))
theorem tree_qf {x y:Int} {i:Decidable ((x != y)=false)} (ha:x=y→Z A) (hb:x≠y→Z B):Z (fun J=> @ite _ ((x != y)=false) i (A J) (B J)):=
 tree_ite (fun h=>ha (by simpa using h)) (fun h=>hb (by simpa using h))
theorem tree_bt {b:Bool} {i:Decidable (b=true)} (ha:b=true→Z A) (hb:b=false→Z B):Z (fun J=> @ite _ (b=true) i (A J) (B J)):=
 tree_ite ha (fun h=>hb (by cases b<;>simp_all))
theorem tree_bf {b:Bool} {i:Decidable (b=false)} (ha:b=false→Z A) (hb:b=true→Z B):Z (fun J=> @ite _ (b=false) i (A J) (B J)):=
 tree_ite ha (fun h=>hb (by cases b<;>simp_all))
theorem tree_nt {b:Bool} {i:Decidable ((!b)=true)} (ha:b=false→Z A) (hb:b=true→Z B):Z (fun J=> @ite _ ((!b)=true) i (A J) (B J)):=
 tree_ite (fun h=>ha (by cases b<;>simp_all)) (fun h=>hb (by cases b<;>simp_all))
theorem tree_nf {b:Bool} {i:Decidable ((!b)=false)} (ha:b=true→Z A) (hb:b=false→Z B):Z (fun J=> @ite _ ((!b)=false) i (A J) (B J)):=
 tree_ite (fun h=>ha (by cases b<;>simp_all)) (fun h=>hb (by cases b<;>simp_all))
def WayT (rF:EvR) (k':List Item) (s':St Ty) (Q:Prop) (F:Jt→EvR):Prop:=(∀J,F J=rF)∨(Q∧ ∀J,F J=J k' s')
theorem Way.of (h: ∀J:Jt,run tb C U J Rt 4096 k s=F J) (g:WayT rF k' s' Q F):Way C U Rt rF k s k' s' Q:=by
 rcases g with g|⟨q,g⟩
 ·exact .inl (.step fun J=>(h J).trans (g J))
 ·exact .inr ⟨q, .step fun J=>(h J).trans (g J)⟩
theorem WayT.no (h: ∀J,F J=rF):WayT rF k' s' Q F:= .inl h
theorem WayT.yes (h: ∀J,F J=J k' s') (q:Q):WayT rF k' s' Q F:= .inr ⟨q,h⟩
def SaysF (C:Cfg Ty) (U:Cuts) (Rt:St Ty→EvR) (rr:Bool→EvR) (Q:Prop) (F:Jt→EvR):Prop:=(∃b,(∀J,F J=rr b)∧(b=true→Q))∨ ∃k' s',(∀J,F J=J k' s')∧Says C U Rt rr k' s' Q
theorem Says.of (h: ∀J:Jt,run tb C U J Rt 4096 k s=F J) (g:SaysF C U Rt rr Q F):Says C U Rt rr k s Q:=by
 rcases g with ⟨b,g1,g2⟩|⟨k',s',g1,b,g2,g3⟩
 ·exact ⟨b, .step fun J=>(h J).trans (g1 J),g2⟩
 ·exact ⟨b,(Goes.step fun J=>(h J).trans (g1 J)).ends g2,g3⟩
theorem SaysF.no (h: ∀J,F J=rr false):SaysF C U Rt rr Q F:= .inl ⟨false,h,fun h=>by cases h⟩
theorem SaysF.yes (h: ∀J,F J=rr true) (q:Q):SaysF C U Rt rr Q F:= .inl ⟨true,h,fun _=>q⟩
theorem SaysF.dec {c:Prop} {i:Decidable c} (h: ∀J,F J=rr (decide c)) (q:c→Q):SaysF C U Rt rr Q F:= .inl ⟨_,h,fun e=>q (of_decide_eq_true e)⟩
theorem SaysF.go (h: ∀J,F J=J k' s') (g:Says C U Rt rr k' s' Q):SaysF C U Rt rr Q F:= .inr ⟨k',s',h,g⟩
end
theorem mem_getD {α:Type} {l:List α} {x:α} (d:α) (h:x∈l): ∃i,i<l.length∧l.getD i d=x:=by
 obtain ⟨i,hi,e⟩:=List.getElem_of_mem h
 exact ⟨i,hi,by simp [List.getD,hi,e]⟩
noncomputable def b47:Code:=bodyOf Try.f47
def C47:Cfg Ty:=⟨fun _=>none,fun _=>false,18,0⟩
def U47:Cuts:=⟨fun
 |0=>some []
 |_=>none,fun
 |0=>some [(0,none),(1,none),(5,none)]
 |_=>none,fun _=>none⟩
noncomputable def k47_j0:List Item:=[.code (sndC (sndC b47))]
noncomputable def k47_l0:List Item:=[.code (inC (inC (sndC (fstC (sndC b47))))), .inLoop (inC (inC (sndC (fstC (sndC b47))))), .inBlock 0, .code (sndC (sndC b47))]
def a47 (l:List Int) (x:Int):List (AV Ty):=[.sl false (3:Nat) l, .v (.int .i64 x)]
noncomputable def R47 (l:List Int) (x:Int):St Ty→EvR:=resT tb C47 Try.f47.results.toList .keep (a47 l x)
def s47_l0 (l:List Int) (x:Int) (v5:Int):St Ty:=St.mk [(0, .sl false (3) l),(1, .v (.int .i64 x)),(5, .v (.int .i64 v5))] []
def s47_j0 (l:List Int) (x:Int):St Ty:=St.mk [] []
theorem e47 (J l x):run tb C47 U47 J (R47 l x) 4096 [.code b47] ⟨slotsA (a47 l x) 0 0,heapA (a47 l x)⟩=
 J k47_l0 (s47_l0 l x 0):=by kernel_rfl
theorem e47_l0 (J l x v5):run tb C47 U47 J (R47 l x) 4096 k47_l0 (s47_l0 l x v5)=
 if decide (v5<(↑l.length:Int))=true then
 if 0≤v5 then
 if v5<(↑l.length:Int) then
 if (l.getD v5.toNat 0 == x)=true then
 some (.v (.bool true),[.dead, .dead])
 else
 J k47_l0 (s47_l0 l x (IntKind.i64.wrap (v5+1)))
 else none
 else none
 else
 J k47_j0 (s47_j0 l x):=by kernel_rfl
theorem e47_j0 (J l x):run tb C47 U47 J (R47 l x) 4096 k47_j0 (s47_j0 l x)=
 some (.v (.bool false),[.dead, .dead]):=by kernel_rfl

theorem in47:Entered 47:=⟨Try.f47,b47,by kernel_rfl,by kernel_rfl,by kernel_rfl⟩
theorem fn47 (l:List Int) (x:Int) {res:AV Ty} {outs:List (AV Ty)} (h:Ends C47 U47 (R47 l x) [.code b47] ⟨slotsA (a47 l x) 0 0,heapA (a47 l x)⟩ (some (res,outs))):CallOk tb Try.prog 47 (a47 l x) res outs:=by
 obtain ⟨n0,hn⟩:=h
 exact fn_ok (C:=C47) (U:=U47) (n:=0+n0) (q:= .keep) tbOk good (fun f mu S h=>by cases h) mixed (fn:=Try.f47) (body:=b47) (by kernel_rfl) (by kernel_rfl) rfl rfl (by show 2≤18;omega) (hn 0)
section
variable {l:List Int} {x:Int}
theorem In.step (hb:l.length≤4611686018427387904) {i:Nat} (h:i<l.length) (hx:l.getD i 0≠x):Goes C47 U47 (R47 l x) k47_l0 (s47_l0 l x i) k47_l0 (s47_l0 l x (i+1:Nat)):= .step fun J=>by
 rw [e47_l0]
 simp (disch:=first|omega|assumption|(rw [dT];omega)|(rw [dF];omega)) only [↓iP,↓iN,iT,iF,wrap_up,tN,Nat.zero_add,beq_iff_eq,hx]
 rfl
theorem In.hit (hb:l.length≤4611686018427387904) {i:Nat} (h:i<l.length) (hx:l.getD i 0=x):Ends C47 U47 (R47 l x) k47_l0 (s47_l0 l x i) (some (.v (.bool true),[.dead, .dead])):= .step fun J=>by
 rw [e47_l0]
 simp (disch:=first|omega|assumption|(rw [dT];omega)|(rw [dF];omega)) only [↓iP,↓iN,iT,iF,wrap_up,tN,Nat.zero_add,beq_iff_eq,hx]
theorem In.out:Ends C47 U47 (R47 l x) k47_l0 (s47_l0 l x l.length) (some (.v (.bool false),[.dead, .dead])):=by
 refine Goes.ends (.step fun J=> ?_) (.step fun J=>e47_j0 J l x)
 rw [e47_l0]
 simp (disch:=first|omega|assumption|(rw [dT];omega)|(rw [dF];omega)) only [↓iP,↓iN,iT,iF,wrap_up,tN,Nat.zero_add]
end
def inB (l:List Int) (x:Int):Bool:=decide (x∈l)
theorem in_ok (l:List Int) (x:Int) (hb:l.length≤4611686018427387904):CallOk tb Try.prog 47 (a47 l x) (.v (.bool (inB l x))) [.dead, .dead]:=by
 refine fn47 l x (Goes.ends (.step fun J=>e47 J l x) ?_)
 unfold inB
 by_cases h:x∈l
 ·obtain ⟨i,h1,h2⟩:=mem_getD 0 h
  rw [decide_eq_true h]
  exact Ends.at (fun i=>s47_l0 l x i) l.length (fun i=>l.getD i 0≠x) (fun i hi hp=>In.step hb hi hp) (fun i hi hp=>In.hit hb hi (by simpa using hp)) l.length 0 (Nat.zero_add _) ⟨i,Nat.zero_le _,h1,by simpa using h2⟩
 ·rw [decide_eq_false h]
  refine Goes.ends (Goes.upto (fun i=>s47_l0 l x i) l.length (fun i hi=>In.step hb hi fun e=>h (e▸getD_mem hi)) l.length (Nat.le_refl _)) In.out
def S47:List (AV Ty)→T (AV Ty×List (AV Ty))
 |[.sl false 3 l, .v (.int .i64 x)]=> .ite (l.length≤4611686018427387904) inferInstance (.ret (.v (.bool (inB l x)),[.dead, .dead])) .fail
 |_=> .fail
theorem S47_ok (l:List (AV Ty)) (r:AV Ty) (outs:List (AV Ty)) (h:(S47 l).val=some (r,outs)):CallOk tb Try.prog 47 l r outs:=by
 unfold S47 at h
 split at h
 ·rcases ite_val h with ⟨e,h⟩|⟨_,h⟩
  ·cases h;exact in_ok _ _ e
  ·cases h
 ·cases h
noncomputable def b150:Code:=bodyOf Try.f150
def C150:Cfg Ty:=⟨fun _=>none,fun _=>false,9,0⟩
def U150:Cuts:=⟨fun _=>none,fun _=>none,fun _=>none⟩
def a150 (x:Int):List (AV Ty):=[.v (.int .i64 x)]
noncomputable def R150 (x:Int):St Ty→EvR:=resT tb C150 Try.f150.results.toList .keep (a150 x)
theorem e150 (J x):run tb C150 U150 J (R150 x) 4096 [.code b150] ⟨slotsA (a150 x) 0 0,heapA (a150 x)⟩=
 if decide (x≥27)=true then
 some (.v (.bool (decide (x≤30))),[.dead])
 else
 some (.v (.bool false),[.dead]):=by kernel_rfl

theorem in150:Entered 150:=⟨Try.f150,b150,by kernel_rfl,by kernel_rfl,by kernel_rfl⟩
theorem fn150 (x:Int) {res:AV Ty} {outs:List (AV Ty)} (h:Ends C150 U150 (R150 x) [.code b150] ⟨slotsA (a150 x) 0 0,heapA (a150 x)⟩ (some (res,outs))):CallOk tb Try.prog 150 (a150 x) res outs:=by
 obtain ⟨n0,hn⟩:=h
 exact fn_ok (C:=C150) (U:=U150) (n:=0+n0) (q:= .keep) tbOk good (fun f mu S h=>by cases h) mixed (fn:=Try.f150) (body:=b150) (by kernel_rfl) (by kernel_rfl) rfl rfl (by show 1≤9;omega) (hn 0)
def endsB (x:Int):Bool:=decide (27≤x∧x≤30)
theorem ends_ok (x:Int):CallOk tb Try.prog 150 (a150 x) (.v (.bool (endsB x))) [.dead]:=by
 refine fn150 x (.step fun J=> ?_)
 rw [e150]
 unfold endsB
 by_cases h1:27≤x
 ·by_cases h2:x≤30
  ·simp [h1,h2]
  ·simp [h1,h2]
 ·simp [h1]
def S150:List (AV Ty)→T (AV Ty×List (AV Ty))
 |[.v (.int .i64 x)]=> .ret (.v (.bool (endsB x)),[.dead])
 |_=> .fail
theorem S150_ok (l:List (AV Ty)) (r:AV Ty) (outs:List (AV Ty)) (h:(S150 l).val=some (r,outs)):CallOk tb Try.prog 150 l r outs:=by
 unfold S150 at h
 split at h
 ·cases h;exact ends_ok _
 ·cases h
def mark (x:Int):Int×Int×Bool×Bool:=
 if x=1∨x=18 then (0,0,false,true)
 else if x=2∨x=3 then (0,0,true,false)
 else if (4≤x∧x≤15)∨x=19∨x=21 then (2,0,false,false)
 else if x=16∨x=20 then (1,0,false,false)
 else if x=17 then (3,0,false,false)
 else if x=22∨x=23 then (-1,0,true,false)
 else if x=24 then (1,0,true,false)
 else if x=25∨x=29 then (-1,0,false,false)
 else if x=26 then (-1,-1,false,false)
 else if x=27 then (0,1,false,false)
 else if x=28 then (1,2,false,false)
 else (0,0,false,false)
def markA (x:Int):Int:=(mark x).1
def markI (x:Int):Int:=(mark x).2.1
def markS (x:Int):Bool:=(mark x).2.2.1
def markN (x:Int):Bool:=(mark x).2.2.2
noncomputable def b167:Code:=bodyOf Try.f167
def C167:Cfg Ty:=⟨fun _=>none,fun _=>false,47,0⟩
def U167:Cuts:=⟨fun _=>none,fun _=>none,fun _=>none⟩
def a167 (x:Int):List (AV Ty):=[.v (.int .i64 x)]
noncomputable def R167 (x:Int):St Ty→EvR:=resT tb C167 Try.f167.results.toList .keep (a167 x)
theorem e167 (J x):run tb C167 U167 J (R167 x) 4096 [.code b167] ⟨slotsA (a167 x) 0 0,heapA (a167 x)⟩=
 if (x == 1)=true then
 some (.tup [.v (.int .i64 0), .v (.int .i64 0), .v (.bool false), .v (.bool true)],[.dead])
 else
 if (x == 18)=true then
 some (.tup [.v (.int .i64 0), .v (.int .i64 0), .v (.bool false), .v (.bool true)],[.dead])
 else
 if (x == 2)=true then
 some (.tup [.v (.int .i64 0), .v (.int .i64 0), .v (.bool true), .v (.bool false)],[.dead])
 else
 if (x == 3)=true then
 some (.tup [.v (.int .i64 0), .v (.int .i64 0), .v (.bool true), .v (.bool false)],[.dead])
 else
 if (x == 4)=true then
 some (.tup [.v (.int .i64 2), .v (.int .i64 0), .v (.bool false), .v (.bool false)],[.dead])
 else
 if (x == 5)=true then
 some (.tup [.v (.int .i64 2), .v (.int .i64 0), .v (.bool false), .v (.bool false)],[.dead])
 else
 if (x == 6)=true then
 some (.tup [.v (.int .i64 2), .v (.int .i64 0), .v (.bool false), .v (.bool false)],[.dead])
 else
 if (x == 7)=true then
 some (.tup [.v (.int .i64 2), .v (.int .i64 0), .v (.bool false), .v (.bool false)],[.dead])
 else
 if (x == 8)=true then
 some (.tup [.v (.int .i64 2), .v (.int .i64 0), .v (.bool false), .v (.bool false)],[.dead])
 else
 if (x == 9)=true then
 some (.tup [.v (.int .i64 2), .v (.int .i64 0), .v (.bool false), .v (.bool false)],[.dead])
 else
 if (x == 10)=true then
 some (.tup [.v (.int .i64 2), .v (.int .i64 0), .v (.bool false), .v (.bool false)],[.dead])
 else
 if (x == 11)=true then
 some (.tup [.v (.int .i64 2), .v (.int .i64 0), .v (.bool false), .v (.bool false)],[.dead])
 else
 if (x == 12)=true then
 some (.tup [.v (.int .i64 2), .v (.int .i64 0), .v (.bool false), .v (.bool false)],[.dead])
 else
 if (x == 13)=true then
 some (.tup [.v (.int .i64 2), .v (.int .i64 0), .v (.bool false), .v (.bool false)],[.dead])
 else
 if (x == 14)=true then
 some (.tup [.v (.int .i64 2), .v (.int .i64 0), .v (.bool false), .v (.bool false)],[.dead])
 else
 if (x == 15)=true then
 some (.tup [.v (.int .i64 2), .v (.int .i64 0), .v (.bool false), .v (.bool false)],[.dead])
 else
 if (x == 19)=true then
 some (.tup [.v (.int .i64 2), .v (.int .i64 0), .v (.bool false), .v (.bool false)],[.dead])
 else
 if (x == 21)=true then
 some (.tup [.v (.int .i64 2), .v (.int .i64 0), .v (.bool false), .v (.bool false)],[.dead])
 else
 if (x == 16)=true then
 some (.tup [.v (.int .i64 1), .v (.int .i64 0), .v (.bool false), .v (.bool false)],[.dead])
 else
 if (x == 20)=true then
 some (.tup [.v (.int .i64 1), .v (.int .i64 0), .v (.bool false), .v (.bool false)],[.dead])
 else
 if (x == 17)=true then
 some (.tup [.v (.int .i64 3), .v (.int .i64 0), .v (.bool false), .v (.bool false)],[.dead])
 else
 if (x == 22)=true then
 some (.tup [.v (.int .i64 (-1:Int)), .v (.int .i64 0), .v (.bool true), .v (.bool false)],[.dead])
 else
 if (x == 23)=true then
 some (.tup [.v (.int .i64 (-1:Int)), .v (.int .i64 0), .v (.bool true), .v (.bool false)],[.dead])
 else
 if (x == 24)=true then
 some (.tup [.v (.int .i64 1), .v (.int .i64 0), .v (.bool true), .v (.bool false)],[.dead])
 else
 if (x == 25)=true then
 some (.tup [.v (.int .i64 (-1:Int)), .v (.int .i64 0), .v (.bool false), .v (.bool false)],[.dead])
 else
 if (x == 29)=true then
 some (.tup [.v (.int .i64 (-1:Int)), .v (.int .i64 0), .v (.bool false), .v (.bool false)],[.dead])
 else
 if (x == 26)=true then
 some (.tup [.v (.int .i64 (-1:Int)), .v (.int .i64 (-1:Int)), .v (.bool false), .v (.bool false)],[.dead])
 else
 if (x == 27)=true then
 some (.tup [.v (.int .i64 0), .v (.int .i64 1), .v (.bool false), .v (.bool false)],[.dead])
 else
 if (x == 28)=true then
 some (.tup [.v (.int .i64 1), .v (.int .i64 2), .v (.bool false), .v (.bool false)],[.dead])
 else
 some (.tup [.v (.int .i64 0), .v (.int .i64 0), .v (.bool false), .v (.bool false)],[.dead]):=by kernel_rfl

theorem in167:Entered 167:=⟨Try.f167,b167,by kernel_rfl,by kernel_rfl,by kernel_rfl⟩
theorem fn167 (x:Int) {res:AV Ty} {outs:List (AV Ty)} (h:Ends C167 U167 (R167 x) [.code b167] ⟨slotsA (a167 x) 0 0,heapA (a167 x)⟩ (some (res,outs))):CallOk tb Try.prog 167 (a167 x) res outs:=by
 obtain ⟨n0,hn⟩:=h
 exact fn_ok (C:=C167) (U:=U167) (n:=0+n0) (q:= .keep) tbOk good (fun f mu S h=>by cases h) mixed (fn:=Try.f167) (body:=b167) (by kernel_rfl) (by kernel_rfl) rfl rfl (by show 1≤47;omega) (hn 0)
theorem mark_ok (x:Int):CallOk tb Try.prog 167 (a167 x) (.tup [.v (.int .i64 (markA x)), .v (.int .i64 (markI x)), .v (.bool (markS x)), .v (.bool (markN x))]) [.dead]:=by
 refine fn167 x (.step fun J=> ?_)
 rw [e167]
 unfold markA markI markS markN mark
 by_cases h:1≤x∧x≤28
 ·obtain ⟨h1,h2⟩:=h
  obtain ⟨n,rfl⟩:=Int.eq_ofNat_of_zero_le (show 0≤x by omega)
  have hn:n<29:=by omega
  match n,hn with
  |0,_=>omega
  |1,_=>rfl
  |2,_=>rfl
  |3,_=>rfl
  |4,_=>rfl
  |5,_=>rfl
  |6,_=>rfl
  |7,_=>rfl
  |8,_=>rfl
  |9,_=>rfl
  |10,_=>rfl
  |11,_=>rfl
  |12,_=>rfl
  |13,_=>rfl
  |14,_=>rfl
  |15,_=>rfl
  |16,_=>rfl
  |17,_=>rfl
  |18,_=>rfl
  |19,_=>rfl
  |20,_=>rfl
  |21,_=>rfl
  |22,_=>rfl
  |23,_=>rfl
  |24,_=>rfl
  |25,_=>rfl
  |26,_=>rfl
  |27,_=>rfl
  |28,_=>rfl
 ·by_cases h29:x=29
  ·subst h29;rfl
  ·simp (disch:=first|omega|assumption|(rw [dT];omega)|(rw [dF];omega)) only [↓iP,↓iN,iT,iF,wrap_up,tN,Nat.zero_add,beq_iff_eq]
def S167:List (AV Ty)→T (AV Ty×List (AV Ty))
 |[.v (.int .i64 x)]=> .ret (.tup [.v (.int .i64 (markA x)), .v (.int .i64 (markI x)), .v (.bool (markS x)), .v (.bool (markN x))],[.dead])
 |_=> .fail
theorem S167_ok (l:List (AV Ty)) (r:AV Ty) (outs:List (AV Ty)) (h:(S167 l).val=some (r,outs)):CallOk tb Try.prog 167 l r outs:=by
 unfold S167 at h
 split at h
 ·cases h;exact mark_ok _
 ·cases h
end Go.Proofs.Ytggibjbcbicpjaa.Ev
namespace Go.Proofs.Ytggibjbcbicpjaa.Ev
open Go
set_option linter.unusedVariables false
set_option linter.unusedSimpArgs false
def Tells (f:FuncId) (ar:List (AV Ty)) (outs:List (AV Ty)) (Q:Prop) (b:Bool):Prop:=CallOk tb Try.prog f ar (.v (.bool b)) outs∧(b=true→Q)
open Classical in
noncomputable def told (f:FuncId) (ar:List (AV Ty)) (outs:List (AV Ty)) (Q:Prop):Bool:=if h: ∃b,Tells f ar outs Q b then Classical.choose h else false
theorem told_ok {f:FuncId} {ar outs:List (AV Ty)} {Q:Prop} (h: ∃b,Tells f ar outs Q b):CallOk tb Try.prog f ar (.v (.bool (told f ar outs Q))) outs∧(told f ar outs Q=true→Q):=by
 unfold told
 rw [dif_pos h]
 exact Classical.choose_spec h
abbrev rD (b:Bool):EvR:=some (.v (.bool b),[.dead])
def FormQ (i:Ev.Ins):Prop:=(1≤i.op∧i.op≤30∧0≤i.type_∧i.type_≤4∧(0≤markA i.op→(i.args.length:Int)=markA i.op)∧(0≤markI i.op→(i.into.length:Int)=markI i.op)∧(i.op=26→1≤i.args.length∧i.into.length=i.args.length)∧(i.op=25→1≤i.args.length))∧(i.type_=0→i.to_=0)∧(i.type_≠0→1≤i.to_)
noncomputable def b148:Code:=bodyOf Try.f148
noncomputable def C148:Cfg Ty:=⟨fun
 |167=>some ([],S167)
 |150=>some ([],S150)
 |_=>none,fun _=>false,150,0⟩
def U148:Cuts:=⟨fun
 |0=>some [(1,none),(8,none)]
 |_=>none,fun _=>none,fun _=>none⟩
noncomputable def k148_j0:List Item:=[.code (sndC (sndC (sndC (sndC (sndC (sndC (sndC b148)))))))]
def a148 (i:Ins):List (AV Ty):=[.agg [.v (.int .i64 i.op), .v (.int .i64 i.type_), .v (.int .i64 i.to_), .v (.int .i64 i.sym_), .v (.int .i64 i.num), .sl false (3:Nat) i.args, .sl false (3:Nat) i.into]]
noncomputable def R148 (i:Ins):St Ty→EvR:=resT tb C148 Try.f148.results.toList .keep (a148 i)
def s148_j0 (i:Ins) (v8:Bool) (h0:List Ins):St Ty:=St.mk [(1, .ptr (0) [] (0) (0)),(8, .v (.bool v8))] [some (Root.mk (46) false h0)]
theorem e148 (J i):run tb C148 U148 J (R148 i) 4096 [.code b148] ⟨slotsA (a148 i) 0 0,heapA (a148 i)⟩=
 if decide (i.op<1)=false then
 if decide (i.op>30)=false then
 if decide (i.type_<0)=false then
 if decide (i.type_>4)=true then
 some (.v (.bool false),[.dead])
 else
 if decide (markA i.op≥0)=true then
 if ((↑i.args.length:Int) != markA i.op)=false then
 if decide (markI i.op≥0)=true then
 if ((↑i.into.length:Int) != markI i.op)=false then
 if (!markS i.op)=true then
 if (i.sym_ != 0)=false then
 if (!markN i.op)=true then
 if (i.num != 0)=true then
 some (.v (.bool false),[.dead])
 else
 if (i.op == 26)=true then
 if decide ((↑i.args.length:Int)<1)=false then
 if ((↑i.into.length:Int) != (↑i.args.length:Int))=true then
 some (.v (.bool false),[.dead])
 else
 J k148_j0 (s148_j0 i false ([Ins.mk i.op i.type_ i.to_ i.sym_ i.num i.args i.into]))
 else
 some (.v (.bool false),[.dead])
 else
 if (i.op == 29)=true then
 if decide ((↑i.args.length:Int)>1)=true then
 some (.v (.bool false),[.dead])
 else
 J k148_j0 (s148_j0 i false ([Ins.mk i.op i.type_ i.to_ i.sym_ i.num i.args i.into]))
 else
 if (i.op == 25)=true then
 if decide ((↑i.args.length:Int)<1)=false then
 if decide ((↑i.args.length:Int)>6)=true then
 some (.v (.bool false),[.dead])
 else
 J k148_j0 (s148_j0 i true ([Ins.mk i.op i.type_ i.to_ i.sym_ i.num i.args i.into]))
 else
 some (.v (.bool false),[.dead])
 else
 if (i.op == 22)=true then
 if decide ((↑i.args.length:Int)>5)=true then
 some (.v (.bool false),[.dead])
 else
 J k148_j0 (s148_j0 i true ([Ins.mk i.op i.type_ i.to_ i.sym_ i.num i.args i.into]))
 else
 if (i.op == 23)=true then
 if decide ((↑i.args.length:Int)>5)=true then
 some (.v (.bool false),[.dead])
 else
 J k148_j0 (s148_j0 i true ([Ins.mk i.op i.type_ i.to_ i.sym_ i.num i.args i.into]))
 else
 if (i.op == 18)=true then
 if decide (i.num<1)=false then
 if decide (i.num>16)=true then
 some (.v (.bool false),[.dead])
 else
 J k148_j0 (s148_j0 i false ([Ins.mk i.op i.type_ i.to_ i.sym_ i.num i.args i.into]))
 else
 some (.v (.bool false),[.dead])
 else
 J k148_j0 (s148_j0 i false ([Ins.mk i.op i.type_ i.to_ i.sym_ i.num i.args i.into]))
 else
 if (i.op == 26)=true then
 if decide ((↑i.args.length:Int)<1)=false then
 if ((↑i.into.length:Int) != (↑i.args.length:Int))=true then
 some (.v (.bool false),[.dead])
 else
 J k148_j0 (s148_j0 i false ([Ins.mk i.op i.type_ i.to_ i.sym_ i.num i.args i.into]))
 else
 some (.v (.bool false),[.dead])
 else
 if (i.op == 29)=true then
 if decide ((↑i.args.length:Int)>1)=true then
 some (.v (.bool false),[.dead])
 else
 J k148_j0 (s148_j0 i false ([Ins.mk i.op i.type_ i.to_ i.sym_ i.num i.args i.into]))
 else
 if (i.op == 25)=true then
 if decide ((↑i.args.length:Int)<1)=false then
 if decide ((↑i.args.length:Int)>6)=true then
 some (.v (.bool false),[.dead])
 else
 J k148_j0 (s148_j0 i true ([Ins.mk i.op i.type_ i.to_ i.sym_ i.num i.args i.into]))
 else
 some (.v (.bool false),[.dead])
 else
 if (i.op == 22)=true then
 if decide ((↑i.args.length:Int)>5)=true then
 some (.v (.bool false),[.dead])
 else
 J k148_j0 (s148_j0 i true ([Ins.mk i.op i.type_ i.to_ i.sym_ i.num i.args i.into]))
 else
 if (i.op == 23)=true then
 if decide ((↑i.args.length:Int)>5)=true then
 some (.v (.bool false),[.dead])
 else
 J k148_j0 (s148_j0 i true ([Ins.mk i.op i.type_ i.to_ i.sym_ i.num i.args i.into]))
 else
 if (i.op == 18)=true then
 if decide (i.num<1)=false then
 if decide (i.num>16)=true then
 some (.v (.bool false),[.dead])
 else
 J k148_j0 (s148_j0 i false ([Ins.mk i.op i.type_ i.to_ i.sym_ i.num i.args i.into]))
 else
 some (.v (.bool false),[.dead])
 else
 J k148_j0 (s148_j0 i false ([Ins.mk i.op i.type_ i.to_ i.sym_ i.num i.args i.into]))
 else
 some (.v (.bool false),[.dead])
 else
 if (!markN i.op)=true then
 if (i.num != 0)=true then
 some (.v (.bool false),[.dead])
 else
 if (i.op == 26)=true then
 if decide ((↑i.args.length:Int)<1)=false then
 if ((↑i.into.length:Int) != (↑i.args.length:Int))=true then
 some (.v (.bool false),[.dead])
 else
 J k148_j0 (s148_j0 i false ([Ins.mk i.op i.type_ i.to_ i.sym_ i.num i.args i.into]))
 else
 some (.v (.bool false),[.dead])
 else
 if (i.op == 29)=true then
 if decide ((↑i.args.length:Int)>1)=true then
 some (.v (.bool false),[.dead])
 else
 J k148_j0 (s148_j0 i false ([Ins.mk i.op i.type_ i.to_ i.sym_ i.num i.args i.into]))
 else
 if (i.op == 25)=true then
 if decide ((↑i.args.length:Int)<1)=false then
 if decide ((↑i.args.length:Int)>6)=true then
 some (.v (.bool false),[.dead])
 else
 J k148_j0 (s148_j0 i true ([Ins.mk i.op i.type_ i.to_ i.sym_ i.num i.args i.into]))
 else
 some (.v (.bool false),[.dead])
 else
 if (i.op == 22)=true then
 if decide ((↑i.args.length:Int)>5)=true then
 some (.v (.bool false),[.dead])
 else
 J k148_j0 (s148_j0 i true ([Ins.mk i.op i.type_ i.to_ i.sym_ i.num i.args i.into]))
 else
 if (i.op == 23)=true then
 if decide ((↑i.args.length:Int)>5)=true then
 some (.v (.bool false),[.dead])
 else
 J k148_j0 (s148_j0 i true ([Ins.mk i.op i.type_ i.to_ i.sym_ i.num i.args i.into]))
 else
 if (i.op == 18)=true then
 if decide (i.num<1)=false then
 if decide (i.num>16)=true then
 some (.v (.bool false),[.dead])
 else
 J k148_j0 (s148_j0 i false ([Ins.mk i.op i.type_ i.to_ i.sym_ i.num i.args i.into]))
 else
 some (.v (.bool false),[.dead])
 else
 J k148_j0 (s148_j0 i false ([Ins.mk i.op i.type_ i.to_ i.sym_ i.num i.args i.into]))
 else
 if (i.op == 26)=true then
 if decide ((↑i.args.length:Int)<1)=false then
 if ((↑i.into.length:Int) != (↑i.args.length:Int))=true then
 some (.v (.bool false),[.dead])
 else
 J k148_j0 (s148_j0 i false ([Ins.mk i.op i.type_ i.to_ i.sym_ i.num i.args i.into]))
 else
 some (.v (.bool false),[.dead])
 else
 if (i.op == 29)=true then
 if decide ((↑i.args.length:Int)>1)=true then
 some (.v (.bool false),[.dead])
 else
 J k148_j0 (s148_j0 i false ([Ins.mk i.op i.type_ i.to_ i.sym_ i.num i.args i.into]))
 else
 if (i.op == 25)=true then
 if decide ((↑i.args.length:Int)<1)=false then
 if decide ((↑i.args.length:Int)>6)=true then
 some (.v (.bool false),[.dead])
 else
 J k148_j0 (s148_j0 i true ([Ins.mk i.op i.type_ i.to_ i.sym_ i.num i.args i.into]))
 else
 some (.v (.bool false),[.dead])
 else
 if (i.op == 22)=true then
 if decide ((↑i.args.length:Int)>5)=true then
 some (.v (.bool false),[.dead])
 else
 J k148_j0 (s148_j0 i true ([Ins.mk i.op i.type_ i.to_ i.sym_ i.num i.args i.into]))
 else
 if (i.op == 23)=true then
 if decide ((↑i.args.length:Int)>5)=true then
 some (.v (.bool false),[.dead])
 else
 J k148_j0 (s148_j0 i true ([Ins.mk i.op i.type_ i.to_ i.sym_ i.num i.args i.into]))
 else
 if (i.op == 18)=true then
 if decide (i.num<1)=false then
 if decide (i.num>16)=true then
 some (.v (.bool false),[.dead])
 else
 J k148_j0 (s148_j0 i false ([Ins.mk i.op i.type_ i.to_ i.sym_ i.num i.args i.into]))
 else
 some (.v (.bool false),[.dead])
 else
 J k148_j0 (s148_j0 i false ([Ins.mk i.op i.type_ i.to_ i.sym_ i.num i.args i.into]))
 else
 some (.v (.bool false),[.dead])
 else
 if (!markS i.op)=true then
 if (i.sym_ != 0)=false then
 if (!markN i.op)=true then
 if (i.num != 0)=true then
 some (.v (.bool false),[.dead])
 else
 if (i.op == 26)=true then
 if decide ((↑i.args.length:Int)<1)=false then
 if ((↑i.into.length:Int) != (↑i.args.length:Int))=true then
 some (.v (.bool false),[.dead])
 else
 J k148_j0 (s148_j0 i false ([Ins.mk i.op i.type_ i.to_ i.sym_ i.num i.args i.into]))
 else
 some (.v (.bool false),[.dead])
 else
 if (i.op == 29)=true then
 if decide ((↑i.args.length:Int)>1)=true then
 some (.v (.bool false),[.dead])
 else
 J k148_j0 (s148_j0 i false ([Ins.mk i.op i.type_ i.to_ i.sym_ i.num i.args i.into]))
 else
 if (i.op == 25)=true then
 if decide ((↑i.args.length:Int)<1)=false then
 if decide ((↑i.args.length:Int)>6)=true then
 some (.v (.bool false),[.dead])
 else
 J k148_j0 (s148_j0 i true ([Ins.mk i.op i.type_ i.to_ i.sym_ i.num i.args i.into]))
 else
 some (.v (.bool false),[.dead])
 else
 if (i.op == 22)=true then
 if decide ((↑i.args.length:Int)>5)=true then
 some (.v (.bool false),[.dead])
 else
 J k148_j0 (s148_j0 i true ([Ins.mk i.op i.type_ i.to_ i.sym_ i.num i.args i.into]))
 else
 if (i.op == 23)=true then
 if decide ((↑i.args.length:Int)>5)=true then
 some (.v (.bool false),[.dead])
 else
 J k148_j0 (s148_j0 i true ([Ins.mk i.op i.type_ i.to_ i.sym_ i.num i.args i.into]))
 else
 if (i.op == 18)=true then
 if decide (i.num<1)=false then
 if decide (i.num>16)=true then
 some (.v (.bool false),[.dead])
 else
 J k148_j0 (s148_j0 i false ([Ins.mk i.op i.type_ i.to_ i.sym_ i.num i.args i.into]))
 else
 some (.v (.bool false),[.dead])
 else
 J k148_j0 (s148_j0 i false ([Ins.mk i.op i.type_ i.to_ i.sym_ i.num i.args i.into]))
 else
 if (i.op == 26)=true then
 if decide ((↑i.args.length:Int)<1)=false then
 if ((↑i.into.length:Int) != (↑i.args.length:Int))=true then
 some (.v (.bool false),[.dead])
 else
 J k148_j0 (s148_j0 i false ([Ins.mk i.op i.type_ i.to_ i.sym_ i.num i.args i.into]))
 else
 some (.v (.bool false),[.dead])
 else
 if (i.op == 29)=true then
 if decide ((↑i.args.length:Int)>1)=true then
 some (.v (.bool false),[.dead])
 else
 J k148_j0 (s148_j0 i false ([Ins.mk i.op i.type_ i.to_ i.sym_ i.num i.args i.into]))
 else
 if (i.op == 25)=true then
 if decide ((↑i.args.length:Int)<1)=false then
 if decide ((↑i.args.length:Int)>6)=true then
 some (.v (.bool false),[.dead])
 else
 J k148_j0 (s148_j0 i true ([Ins.mk i.op i.type_ i.to_ i.sym_ i.num i.args i.into]))
 else
 some (.v (.bool false),[.dead])
 else
 if (i.op == 22)=true then
 if decide ((↑i.args.length:Int)>5)=true then
 some (.v (.bool false),[.dead])
 else
 J k148_j0 (s148_j0 i true ([Ins.mk i.op i.type_ i.to_ i.sym_ i.num i.args i.into]))
 else
 if (i.op == 23)=true then
 if decide ((↑i.args.length:Int)>5)=true then
 some (.v (.bool false),[.dead])
 else
 J k148_j0 (s148_j0 i true ([Ins.mk i.op i.type_ i.to_ i.sym_ i.num i.args i.into]))
 else
 if (i.op == 18)=true then
 if decide (i.num<1)=false then
 if decide (i.num>16)=true then
 some (.v (.bool false),[.dead])
 else
 J k148_j0 (s148_j0 i false ([Ins.mk i.op i.type_ i.to_ i.sym_ i.num i.args i.into]))
 else
 some (.v (.bool false),[.dead])
 else
 J k148_j0 (s148_j0 i false ([Ins.mk i.op i.type_ i.to_ i.sym_ i.num i.args i.into]))
 else
 some (.v (.bool false),[.dead])
 else
 if (!markN i.op)=true then
 if (i.num != 0)=true then
 some (.v (.bool false),[.dead])
 else
 if (i.op == 26)=true then
 if decide ((↑i.args.length:Int)<1)=false then
 if ((↑i.into.length:Int) != (↑i.args.length:Int))=true then
 some (.v (.bool false),[.dead])
 else
 J k148_j0 (s148_j0 i false ([Ins.mk i.op i.type_ i.to_ i.sym_ i.num i.args i.into]))
 else
 some (.v (.bool false),[.dead])
 else
 if (i.op == 29)=true then
 if decide ((↑i.args.length:Int)>1)=true then
 some (.v (.bool false),[.dead])
 else
 J k148_j0 (s148_j0 i false ([Ins.mk i.op i.type_ i.to_ i.sym_ i.num i.args i.into]))
 else
 if (i.op == 25)=true then
 if decide ((↑i.args.length:Int)<1)=false then
 if decide ((↑i.args.length:Int)>6)=true then
 some (.v (.bool false),[.dead])
 else
 J k148_j0 (s148_j0 i true ([Ins.mk i.op i.type_ i.to_ i.sym_ i.num i.args i.into]))
 else
 some (.v (.bool false),[.dead])
 else
 if (i.op == 22)=true then
 if decide ((↑i.args.length:Int)>5)=true then
 some (.v (.bool false),[.dead])
 else
 J k148_j0 (s148_j0 i true ([Ins.mk i.op i.type_ i.to_ i.sym_ i.num i.args i.into]))
 else
 if (i.op == 23)=true then
 if decide ((↑i.args.length:Int)>5)=true then
 some (.v (.bool false),[.dead])
 else
 J k148_j0 (s148_j0 i true ([Ins.mk i.op i.type_ i.to_ i.sym_ i.num i.args i.into]))
 else
 if (i.op == 18)=true then
 if decide (i.num<1)=false then
 if decide (i.num>16)=true then
 some (.v (.bool false),[.dead])
 else
 J k148_j0 (s148_j0 i false ([Ins.mk i.op i.type_ i.to_ i.sym_ i.num i.args i.into]))
 else
 some (.v (.bool false),[.dead])
 else
 J k148_j0 (s148_j0 i false ([Ins.mk i.op i.type_ i.to_ i.sym_ i.num i.args i.into]))
 else
 if (i.op == 26)=true then
 if decide ((↑i.args.length:Int)<1)=false then
 if ((↑i.into.length:Int) != (↑i.args.length:Int))=true then
 some (.v (.bool false),[.dead])
 else
 J k148_j0 (s148_j0 i false ([Ins.mk i.op i.type_ i.to_ i.sym_ i.num i.args i.into]))
 else
 some (.v (.bool false),[.dead])
 else
 if (i.op == 29)=true then
 if decide ((↑i.args.length:Int)>1)=true then
 some (.v (.bool false),[.dead])
 else
 J k148_j0 (s148_j0 i false ([Ins.mk i.op i.type_ i.to_ i.sym_ i.num i.args i.into]))
 else
 if (i.op == 25)=true then
 if decide ((↑i.args.length:Int)<1)=false then
 if decide ((↑i.args.length:Int)>6)=true then
 some (.v (.bool false),[.dead])
 else
 J k148_j0 (s148_j0 i true ([Ins.mk i.op i.type_ i.to_ i.sym_ i.num i.args i.into]))
 else
 some (.v (.bool false),[.dead])
 else
 if (i.op == 22)=true then
 if decide ((↑i.args.length:Int)>5)=true then
 some (.v (.bool false),[.dead])
 else
 J k148_j0 (s148_j0 i true ([Ins.mk i.op i.type_ i.to_ i.sym_ i.num i.args i.into]))
 else
 if (i.op == 23)=true then
 if decide ((↑i.args.length:Int)>5)=true then
 some (.v (.bool false),[.dead])
 else
 J k148_j0 (s148_j0 i true ([Ins.mk i.op i.type_ i.to_ i.sym_ i.num i.args i.into]))
 else
 if (i.op == 18)=true then
 if decide (i.num<1)=false then
 if decide (i.num>16)=true then
 some (.v (.bool false),[.dead])
 else
 J k148_j0 (s148_j0 i false ([Ins.mk i.op i.type_ i.to_ i.sym_ i.num i.args i.into]))
 else
 some (.v (.bool false),[.dead])
 else
 J k148_j0 (s148_j0 i false ([Ins.mk i.op i.type_ i.to_ i.sym_ i.num i.args i.into]))
 else
 some (.v (.bool false),[.dead])
 else
 if decide (markI i.op≥0)=true then
 if ((↑i.into.length:Int) != markI i.op)=false then
 if (!markS i.op)=true then
 if (i.sym_ != 0)=false then
 if (!markN i.op)=true then
 if (i.num != 0)=true then
 some (.v (.bool false),[.dead])
 else
 if (i.op == 26)=true then
 if decide ((↑i.args.length:Int)<1)=false then
 if ((↑i.into.length:Int) != (↑i.args.length:Int))=true then
 some (.v (.bool false),[.dead])
 else
 J k148_j0 (s148_j0 i false ([Ins.mk i.op i.type_ i.to_ i.sym_ i.num i.args i.into]))
 else
 some (.v (.bool false),[.dead])
 else
 if (i.op == 29)=true then
 if decide ((↑i.args.length:Int)>1)=true then
 some (.v (.bool false),[.dead])
 else
 J k148_j0 (s148_j0 i false ([Ins.mk i.op i.type_ i.to_ i.sym_ i.num i.args i.into]))
 else
 if (i.op == 25)=true then
 if decide ((↑i.args.length:Int)<1)=false then
 if decide ((↑i.args.length:Int)>6)=true then
 some (.v (.bool false),[.dead])
 else
 J k148_j0 (s148_j0 i true ([Ins.mk i.op i.type_ i.to_ i.sym_ i.num i.args i.into]))
 else
 some (.v (.bool false),[.dead])
 else
 if (i.op == 22)=true then
 if decide ((↑i.args.length:Int)>5)=true then
 some (.v (.bool false),[.dead])
 else
 J k148_j0 (s148_j0 i true ([Ins.mk i.op i.type_ i.to_ i.sym_ i.num i.args i.into]))
 else
 if (i.op == 23)=true then
 if decide ((↑i.args.length:Int)>5)=true then
 some (.v (.bool false),[.dead])
 else
 J k148_j0 (s148_j0 i true ([Ins.mk i.op i.type_ i.to_ i.sym_ i.num i.args i.into]))
 else
 if (i.op == 18)=true then
 if decide (i.num<1)=false then
 if decide (i.num>16)=true then
 some (.v (.bool false),[.dead])
 else
 J k148_j0 (s148_j0 i false ([Ins.mk i.op i.type_ i.to_ i.sym_ i.num i.args i.into]))
 else
 some (.v (.bool false),[.dead])
 else
 J k148_j0 (s148_j0 i false ([Ins.mk i.op i.type_ i.to_ i.sym_ i.num i.args i.into]))
 else
 if (i.op == 26)=true then
 if decide ((↑i.args.length:Int)<1)=false then
 if ((↑i.into.length:Int) != (↑i.args.length:Int))=true then
 some (.v (.bool false),[.dead])
 else
 J k148_j0 (s148_j0 i false ([Ins.mk i.op i.type_ i.to_ i.sym_ i.num i.args i.into]))
 else
 some (.v (.bool false),[.dead])
 else
 if (i.op == 29)=true then
 if decide ((↑i.args.length:Int)>1)=true then
 some (.v (.bool false),[.dead])
 else
 J k148_j0 (s148_j0 i false ([Ins.mk i.op i.type_ i.to_ i.sym_ i.num i.args i.into]))
 else
 if (i.op == 25)=true then
 if decide ((↑i.args.length:Int)<1)=false then
 if decide ((↑i.args.length:Int)>6)=true then
 some (.v (.bool false),[.dead])
 else
 J k148_j0 (s148_j0 i true ([Ins.mk i.op i.type_ i.to_ i.sym_ i.num i.args i.into]))
 else
 some (.v (.bool false),[.dead])
 else
 if (i.op == 22)=true then
 if decide ((↑i.args.length:Int)>5)=true then
 some (.v (.bool false),[.dead])
 else
 J k148_j0 (s148_j0 i true ([Ins.mk i.op i.type_ i.to_ i.sym_ i.num i.args i.into]))
 else
 if (i.op == 23)=true then
 if decide ((↑i.args.length:Int)>5)=true then
 some (.v (.bool false),[.dead])
 else
 J k148_j0 (s148_j0 i true ([Ins.mk i.op i.type_ i.to_ i.sym_ i.num i.args i.into]))
 else
 if (i.op == 18)=true then
 if decide (i.num<1)=false then
 if decide (i.num>16)=true then
 some (.v (.bool false),[.dead])
 else
 J k148_j0 (s148_j0 i false ([Ins.mk i.op i.type_ i.to_ i.sym_ i.num i.args i.into]))
 else
 some (.v (.bool false),[.dead])
 else
 J k148_j0 (s148_j0 i false ([Ins.mk i.op i.type_ i.to_ i.sym_ i.num i.args i.into]))
 else
 some (.v (.bool false),[.dead])
 else
 if (!markN i.op)=true then
 if (i.num != 0)=true then
 some (.v (.bool false),[.dead])
 else
 if (i.op == 26)=true then
 if decide ((↑i.args.length:Int)<1)=false then
 if ((↑i.into.length:Int) != (↑i.args.length:Int))=true then
 some (.v (.bool false),[.dead])
 else
 J k148_j0 (s148_j0 i false ([Ins.mk i.op i.type_ i.to_ i.sym_ i.num i.args i.into]))
 else
 some (.v (.bool false),[.dead])
 else
 if (i.op == 29)=true then
 if decide ((↑i.args.length:Int)>1)=true then
 some (.v (.bool false),[.dead])
 else
 J k148_j0 (s148_j0 i false ([Ins.mk i.op i.type_ i.to_ i.sym_ i.num i.args i.into]))
 else
 if (i.op == 25)=true then
 if decide ((↑i.args.length:Int)<1)=false then
 if decide ((↑i.args.length:Int)>6)=true then
 some (.v (.bool false),[.dead])
 else
 J k148_j0 (s148_j0 i true ([Ins.mk i.op i.type_ i.to_ i.sym_ i.num i.args i.into]))
 else
 some (.v (.bool false),[.dead])
 else
 if (i.op == 22)=true then
 if decide ((↑i.args.length:Int)>5)=true then
 some (.v (.bool false),[.dead])
 else
 J k148_j0 (s148_j0 i true ([Ins.mk i.op i.type_ i.to_ i.sym_ i.num i.args i.into]))
 else
 if (i.op == 23)=true then
 if decide ((↑i.args.length:Int)>5)=true then
 some (.v (.bool false),[.dead])
 else
 J k148_j0 (s148_j0 i true ([Ins.mk i.op i.type_ i.to_ i.sym_ i.num i.args i.into]))
 else
 if (i.op == 18)=true then
 if decide (i.num<1)=false then
 if decide (i.num>16)=true then
 some (.v (.bool false),[.dead])
 else
 J k148_j0 (s148_j0 i false ([Ins.mk i.op i.type_ i.to_ i.sym_ i.num i.args i.into]))
 else
 some (.v (.bool false),[.dead])
 else
 J k148_j0 (s148_j0 i false ([Ins.mk i.op i.type_ i.to_ i.sym_ i.num i.args i.into]))
 else
 if (i.op == 26)=true then
 if decide ((↑i.args.length:Int)<1)=false then
 if ((↑i.into.length:Int) != (↑i.args.length:Int))=true then
 some (.v (.bool false),[.dead])
 else
 J k148_j0 (s148_j0 i false ([Ins.mk i.op i.type_ i.to_ i.sym_ i.num i.args i.into]))
 else
 some (.v (.bool false),[.dead])
 else
 if (i.op == 29)=true then
 if decide ((↑i.args.length:Int)>1)=true then
 some (.v (.bool false),[.dead])
 else
 J k148_j0 (s148_j0 i false ([Ins.mk i.op i.type_ i.to_ i.sym_ i.num i.args i.into]))
 else
 if (i.op == 25)=true then
 if decide ((↑i.args.length:Int)<1)=false then
 if decide ((↑i.args.length:Int)>6)=true then
 some (.v (.bool false),[.dead])
 else
 J k148_j0 (s148_j0 i true ([Ins.mk i.op i.type_ i.to_ i.sym_ i.num i.args i.into]))
 else
 some (.v (.bool false),[.dead])
 else
 if (i.op == 22)=true then
 if decide ((↑i.args.length:Int)>5)=true then
 some (.v (.bool false),[.dead])
 else
 J k148_j0 (s148_j0 i true ([Ins.mk i.op i.type_ i.to_ i.sym_ i.num i.args i.into]))
 else
 if (i.op == 23)=true then
 if decide ((↑i.args.length:Int)>5)=true then
 some (.v (.bool false),[.dead])
 else
 J k148_j0 (s148_j0 i true ([Ins.mk i.op i.type_ i.to_ i.sym_ i.num i.args i.into]))
 else
 if (i.op == 18)=true then
 if decide (i.num<1)=false then
 if decide (i.num>16)=true then
 some (.v (.bool false),[.dead])
 else
 J k148_j0 (s148_j0 i false ([Ins.mk i.op i.type_ i.to_ i.sym_ i.num i.args i.into]))
 else
 some (.v (.bool false),[.dead])
 else
 J k148_j0 (s148_j0 i false ([Ins.mk i.op i.type_ i.to_ i.sym_ i.num i.args i.into]))
 else
 some (.v (.bool false),[.dead])
 else
 if (!markS i.op)=true then
 if (i.sym_ != 0)=false then
 if (!markN i.op)=true then
 if (i.num != 0)=true then
 some (.v (.bool false),[.dead])
 else
 if (i.op == 26)=true then
 if decide ((↑i.args.length:Int)<1)=false then
 if ((↑i.into.length:Int) != (↑i.args.length:Int))=true then
 some (.v (.bool false),[.dead])
 else
 J k148_j0 (s148_j0 i false ([Ins.mk i.op i.type_ i.to_ i.sym_ i.num i.args i.into]))
 else
 some (.v (.bool false),[.dead])
 else
 if (i.op == 29)=true then
 if decide ((↑i.args.length:Int)>1)=true then
 some (.v (.bool false),[.dead])
 else
 J k148_j0 (s148_j0 i false ([Ins.mk i.op i.type_ i.to_ i.sym_ i.num i.args i.into]))
 else
 if (i.op == 25)=true then
 if decide ((↑i.args.length:Int)<1)=false then
 if decide ((↑i.args.length:Int)>6)=true then
 some (.v (.bool false),[.dead])
 else
 J k148_j0 (s148_j0 i true ([Ins.mk i.op i.type_ i.to_ i.sym_ i.num i.args i.into]))
 else
 some (.v (.bool false),[.dead])
 else
 if (i.op == 22)=true then
 if decide ((↑i.args.length:Int)>5)=true then
 some (.v (.bool false),[.dead])
 else
 J k148_j0 (s148_j0 i true ([Ins.mk i.op i.type_ i.to_ i.sym_ i.num i.args i.into]))
 else
 if (i.op == 23)=true then
 if decide ((↑i.args.length:Int)>5)=true then
 some (.v (.bool false),[.dead])
 else
 J k148_j0 (s148_j0 i true ([Ins.mk i.op i.type_ i.to_ i.sym_ i.num i.args i.into]))
 else
 if (i.op == 18)=true then
 if decide (i.num<1)=false then
 if decide (i.num>16)=true then
 some (.v (.bool false),[.dead])
 else
 J k148_j0 (s148_j0 i false ([Ins.mk i.op i.type_ i.to_ i.sym_ i.num i.args i.into]))
 else
 some (.v (.bool false),[.dead])
 else
 J k148_j0 (s148_j0 i false ([Ins.mk i.op i.type_ i.to_ i.sym_ i.num i.args i.into]))
 else
 if (i.op == 26)=true then
 if decide ((↑i.args.length:Int)<1)=false then
 if ((↑i.into.length:Int) != (↑i.args.length:Int))=true then
 some (.v (.bool false),[.dead])
 else
 J k148_j0 (s148_j0 i false ([Ins.mk i.op i.type_ i.to_ i.sym_ i.num i.args i.into]))
 else
 some (.v (.bool false),[.dead])
 else
 if (i.op == 29)=true then
 if decide ((↑i.args.length:Int)>1)=true then
 some (.v (.bool false),[.dead])
 else
 J k148_j0 (s148_j0 i false ([Ins.mk i.op i.type_ i.to_ i.sym_ i.num i.args i.into]))
 else
 if (i.op == 25)=true then
 if decide ((↑i.args.length:Int)<1)=false then
 if decide ((↑i.args.length:Int)>6)=true then
 some (.v (.bool false),[.dead])
 else
 J k148_j0 (s148_j0 i true ([Ins.mk i.op i.type_ i.to_ i.sym_ i.num i.args i.into]))
 else
 some (.v (.bool false),[.dead])
 else
 if (i.op == 22)=true then
 if decide ((↑i.args.length:Int)>5)=true then
 some (.v (.bool false),[.dead])
 else
 J k148_j0 (s148_j0 i true ([Ins.mk i.op i.type_ i.to_ i.sym_ i.num i.args i.into]))
 else
 if (i.op == 23)=true then
 if decide ((↑i.args.length:Int)>5)=true then
 some (.v (.bool false),[.dead])
 else
 J k148_j0 (s148_j0 i true ([Ins.mk i.op i.type_ i.to_ i.sym_ i.num i.args i.into]))
 else
 if (i.op == 18)=true then
 if decide (i.num<1)=false then
 if decide (i.num>16)=true then
 some (.v (.bool false),[.dead])
 else
 J k148_j0 (s148_j0 i false ([Ins.mk i.op i.type_ i.to_ i.sym_ i.num i.args i.into]))
 else
 some (.v (.bool false),[.dead])
 else
 J k148_j0 (s148_j0 i false ([Ins.mk i.op i.type_ i.to_ i.sym_ i.num i.args i.into]))
 else
 some (.v (.bool false),[.dead])
 else
 if (!markN i.op)=true then
 if (i.num != 0)=true then
 some (.v (.bool false),[.dead])
 else
 if (i.op == 26)=true then
 if decide ((↑i.args.length:Int)<1)=false then
 if ((↑i.into.length:Int) != (↑i.args.length:Int))=true then
 some (.v (.bool false),[.dead])
 else
 J k148_j0 (s148_j0 i false ([Ins.mk i.op i.type_ i.to_ i.sym_ i.num i.args i.into]))
 else
 some (.v (.bool false),[.dead])
 else
 if (i.op == 29)=true then
 if decide ((↑i.args.length:Int)>1)=true then
 some (.v (.bool false),[.dead])
 else
 J k148_j0 (s148_j0 i false ([Ins.mk i.op i.type_ i.to_ i.sym_ i.num i.args i.into]))
 else
 if (i.op == 25)=true then
 if decide ((↑i.args.length:Int)<1)=false then
 if decide ((↑i.args.length:Int)>6)=true then
 some (.v (.bool false),[.dead])
 else
 J k148_j0 (s148_j0 i true ([Ins.mk i.op i.type_ i.to_ i.sym_ i.num i.args i.into]))
 else
 some (.v (.bool false),[.dead])
 else
 if (i.op == 22)=true then
 if decide ((↑i.args.length:Int)>5)=true then
 some (.v (.bool false),[.dead])
 else
 J k148_j0 (s148_j0 i true ([Ins.mk i.op i.type_ i.to_ i.sym_ i.num i.args i.into]))
 else
 if (i.op == 23)=true then
 if decide ((↑i.args.length:Int)>5)=true then
 some (.v (.bool false),[.dead])
 else
 J k148_j0 (s148_j0 i true ([Ins.mk i.op i.type_ i.to_ i.sym_ i.num i.args i.into]))
 else
 if (i.op == 18)=true then
 if decide (i.num<1)=false then
 if decide (i.num>16)=true then
 some (.v (.bool false),[.dead])
 else
 J k148_j0 (s148_j0 i false ([Ins.mk i.op i.type_ i.to_ i.sym_ i.num i.args i.into]))
 else
 some (.v (.bool false),[.dead])
 else
 J k148_j0 (s148_j0 i false ([Ins.mk i.op i.type_ i.to_ i.sym_ i.num i.args i.into]))
 else
 if (i.op == 26)=true then
 if decide ((↑i.args.length:Int)<1)=false then
 if ((↑i.into.length:Int) != (↑i.args.length:Int))=true then
 some (.v (.bool false),[.dead])
 else
 J k148_j0 (s148_j0 i false ([Ins.mk i.op i.type_ i.to_ i.sym_ i.num i.args i.into]))
 else
 some (.v (.bool false),[.dead])
 else
 if (i.op == 29)=true then
 if decide ((↑i.args.length:Int)>1)=true then
 some (.v (.bool false),[.dead])
 else
 J k148_j0 (s148_j0 i false ([Ins.mk i.op i.type_ i.to_ i.sym_ i.num i.args i.into]))
 else
 if (i.op == 25)=true then
 if decide ((↑i.args.length:Int)<1)=false then
 if decide ((↑i.args.length:Int)>6)=true then
 some (.v (.bool false),[.dead])
 else
 J k148_j0 (s148_j0 i true ([Ins.mk i.op i.type_ i.to_ i.sym_ i.num i.args i.into]))
 else
 some (.v (.bool false),[.dead])
 else
 if (i.op == 22)=true then
 if decide ((↑i.args.length:Int)>5)=true then
 some (.v (.bool false),[.dead])
 else
 J k148_j0 (s148_j0 i true ([Ins.mk i.op i.type_ i.to_ i.sym_ i.num i.args i.into]))
 else
 if (i.op == 23)=true then
 if decide ((↑i.args.length:Int)>5)=true then
 some (.v (.bool false),[.dead])
 else
 J k148_j0 (s148_j0 i true ([Ins.mk i.op i.type_ i.to_ i.sym_ i.num i.args i.into]))
 else
 if (i.op == 18)=true then
 if decide (i.num<1)=false then
 if decide (i.num>16)=true then
 some (.v (.bool false),[.dead])
 else
 J k148_j0 (s148_j0 i false ([Ins.mk i.op i.type_ i.to_ i.sym_ i.num i.args i.into]))
 else
 some (.v (.bool false),[.dead])
 else
 J k148_j0 (s148_j0 i false ([Ins.mk i.op i.type_ i.to_ i.sym_ i.num i.args i.into]))
 else
 some (.v (.bool false),[.dead])
 else
 some (.v (.bool false),[.dead])
 else
 some (.v (.bool false),[.dead]):=by kernel_rfl
theorem e148_j0 (J i v8 h0):run tb C148 U148 J (R148 i) 4096 k148_j0 (s148_j0 i v8 h0)=
 if ((h0.getD (0) (Ins.mk 0 0 0 0 0 [] [])).op == 21)=false then
 if (!v8)=true then
 if (!endsB (h0.getD (0) (Ins.mk 0 0 0 0 0 [] [])).op == ((h0.getD (0) (Ins.mk 0 0 0 0 0 [] [])).type_ == 0))=true then
 some (.v (.bool false),[.dead])
 else
 if ((h0.getD (0) (Ins.mk 0 0 0 0 0 [] [])).type_ == 0)=true then
 if ((h0.getD (0) (Ins.mk 0 0 0 0 0 [] [])).to_ == 0)=false then
 if ((h0.getD (0) (Ins.mk 0 0 0 0 0 [] [])).type_ != 0)=true then
 some (.v (.bool (decide ((h0.getD (0) (Ins.mk 0 0 0 0 0 [] [])).to_≥1))),[.dead])
 else
 some (.v (.bool false),[.dead])
 else
 some (.v (.bool true),[.dead])
 else
 if ((h0.getD (0) (Ins.mk 0 0 0 0 0 [] [])).type_ != 0)=true then
 some (.v (.bool (decide ((h0.getD (0) (Ins.mk 0 0 0 0 0 [] [])).to_≥1))),[.dead])
 else
 some (.v (.bool false),[.dead])
 else
 if ((h0.getD (0) (Ins.mk 0 0 0 0 0 [] [])).type_ == 0)=true then
 if ((h0.getD (0) (Ins.mk 0 0 0 0 0 [] [])).to_ == 0)=false then
 if ((h0.getD (0) (Ins.mk 0 0 0 0 0 [] [])).type_ != 0)=true then
 some (.v (.bool (decide ((h0.getD (0) (Ins.mk 0 0 0 0 0 [] [])).to_≥1))),[.dead])
 else
 some (.v (.bool false),[.dead])
 else
 some (.v (.bool true),[.dead])
 else
 if ((h0.getD (0) (Ins.mk 0 0 0 0 0 [] [])).type_ != 0)=true then
 some (.v (.bool (decide ((h0.getD (0) (Ins.mk 0 0 0 0 0 [] [])).to_≥1))),[.dead])
 else
 some (.v (.bool false),[.dead])
 else
 if (!v8)=true then
 if (!true == ((h0.getD (0) (Ins.mk 0 0 0 0 0 [] [])).type_ == 0))=true then
 some (.v (.bool false),[.dead])
 else
 if ((h0.getD (0) (Ins.mk 0 0 0 0 0 [] [])).type_ == 0)=true then
 if ((h0.getD (0) (Ins.mk 0 0 0 0 0 [] [])).to_ == 0)=false then
 if ((h0.getD (0) (Ins.mk 0 0 0 0 0 [] [])).type_ != 0)=true then
 some (.v (.bool (decide ((h0.getD (0) (Ins.mk 0 0 0 0 0 [] [])).to_≥1))),[.dead])
 else
 some (.v (.bool false),[.dead])
 else
 some (.v (.bool true),[.dead])
 else
 if ((h0.getD (0) (Ins.mk 0 0 0 0 0 [] [])).type_ != 0)=true then
 some (.v (.bool (decide ((h0.getD (0) (Ins.mk 0 0 0 0 0 [] [])).to_≥1))),[.dead])
 else
 some (.v (.bool false),[.dead])
 else
 if ((h0.getD (0) (Ins.mk 0 0 0 0 0 [] [])).type_ == 0)=true then
 if ((h0.getD (0) (Ins.mk 0 0 0 0 0 [] [])).to_ == 0)=false then
 if ((h0.getD (0) (Ins.mk 0 0 0 0 0 [] [])).type_ != 0)=true then
 some (.v (.bool (decide ((h0.getD (0) (Ins.mk 0 0 0 0 0 [] [])).to_≥1))),[.dead])
 else
 some (.v (.bool false),[.dead])
 else
 some (.v (.bool true),[.dead])
 else
 if ((h0.getD (0) (Ins.mk 0 0 0 0 0 [] [])).type_ != 0)=true then
 some (.v (.bool (decide ((h0.getD (0) (Ins.mk 0 0 0 0 0 [] [])).to_≥1))),[.dead])
 else
 some (.v (.bool false),[.dead]):=by kernel_rfl

theorem in148:Entered 148:=⟨Try.f148,b148,by kernel_rfl,by kernel_rfl,by kernel_rfl⟩
theorem fn148 (i:Ev.Ins) {res:AV Ty} {outs:List (AV Ty)} (h:Ends C148 U148 (R148 i) [.code b148] ⟨slotsA (a148 i) 0 0,heapA (a148 i)⟩ (some (res,outs))):CallOk tb Try.prog 148 (a148 i) res outs:=by
 obtain ⟨n0,hn⟩:=h
 exact fn_ok (C:=C148) (U:=U148) (n:=0+n0) (q:= .keep) tbOk good (fun f mu S h=>by
  unfold C148 at h
  simp only at h
  split at h
  ·cases h;exact ⟨in167,S167_ok⟩
  ·cases h;exact ⟨in150,S150_ok⟩
  ·cases h) mixed (fn:=Try.f148) (body:=b148) (by kernel_rfl) (by kernel_rfl) rfl rfl (by show 1≤150;omega) (hn 0)
theorem form_j0 (i:Ev.Ins) (v:Bool):Says C148 U148 (R148 i) rD k148_j0 (s148_j0 i v [i]) ((i.type_=0→i.to_=0)∧(i.type_≠0→1≤i.to_)):=by
 refine Says.of (fun J=>e148_j0 J i v [i]) ?_
 simp only [List.getD_cons_zero]
 repeat' first|refine tree_qt (fun _=> ?_) (fun _=> ?_)|refine tree_qf (fun _=> ?_) (fun _=> ?_)|refine tree_nt (fun _=> ?_) (fun _=> ?_)|refine tree_nf (fun _=> ?_) (fun _=> ?_)|refine tree_et (fun _=> ?_) (fun _=> ?_)|refine tree_ef (fun _=> ?_) (fun _=> ?_)|refine tree_dt (fun _=> ?_) (fun _=> ?_)|refine tree_df (fun _=> ?_) (fun _=> ?_)|refine tree_bt (fun _=> ?_) (fun _=> ?_)|refine tree_bf (fun _=> ?_) (fun _=> ?_)|refine tree_ite (fun _=> ?_) (fun _=> ?_)
 all_goals first|exact SaysF.no (fun J=>rfl)|exact SaysF.yes (fun J=>rfl) (by refine ⟨fun _=> ?_,fun _=> ?_⟩<;>omega)|exact SaysF.dec (fun J=>rfl) (fun _=>by refine ⟨fun _=> ?_,fun _=> ?_⟩<;>omega)
set_option maxHeartbeats 4000000 in
theorem form_says (i:Ev.Ins):Says C148 U148 (R148 i) rD [.code b148] ⟨slotsA (a148 i) 0 0,heapA (a148 i)⟩ (FormQ i):=by
 refine Says.of (fun J=>e148 J i) ?_
 repeat' first|refine tree_qt (fun _=> ?_) (fun _=> ?_)|refine tree_qf (fun _=> ?_) (fun _=> ?_)|refine tree_nt (fun _=> ?_) (fun _=> ?_)|refine tree_nf (fun _=> ?_) (fun _=> ?_)|refine tree_et (fun _=> ?_) (fun _=> ?_)|refine tree_ef (fun _=> ?_) (fun _=> ?_)|refine tree_dt (fun _=> ?_) (fun _=> ?_)|refine tree_df (fun _=> ?_) (fun _=> ?_)|refine tree_bt (fun _=> ?_) (fun _=> ?_)|refine tree_bf (fun _=> ?_) (fun _=> ?_)|refine tree_ite (fun _=> ?_) (fun _=> ?_)
 all_goals first|exact SaysF.no (fun J=>rfl)|(refine SaysF.go (fun J=>rfl) ((form_j0 i _).mono fun q=>⟨⟨?_,?_,?_,?_,fun _=> ?_,fun _=> ?_,fun _=>⟨?_,?_⟩,fun _=> ?_⟩,q⟩)<;>omega)
theorem form_ok (i:Ev.Ins): ∃b,Tells 148 (a148 i) [.dead] (FormQ i) b:=by
 obtain ⟨b,h,q⟩:=form_says i
 exact ⟨b,fn148 i h,q⟩
noncomputable def formB (i:Ev.Ins):Bool:=told 148 (a148 i) [.dead] (FormQ i)
noncomputable def S148:List (AV Ty)→T (AV Ty×List (AV Ty))
 |[.agg x]=>match cod46.dec false x with
  |some i=> .ret (.v (.bool (formB i)),[.dead])
  |none=> .fail
 |_=> .fail
theorem S148_ok (l:List (AV Ty)) (r:AV Ty) (outs:List (AV Ty)) (h:(S148 l).val=some (r,outs)):CallOk tb Try.prog 148 l r outs:=by
 unfold S148 at h
 split at h
 ·rename_i x
  split at h
  ·rename_i i e1
   cases h
   have h1:=cod46_ok.dec false x i e1
   subst h1
   exact (told_ok (form_ok i)).1
  ·cases h
 ·cases h
noncomputable def b168:Code:=bodyOf Try.f168
def C168:Cfg Ty:=⟨fun _=>none,fun _=>false,50,0⟩
def U168:Cuts:=⟨fun
 |0=>some []
 |_=>none,fun
 |0=>some [(0,none),(3,none)]
 |_=>none,fun _=>none⟩
noncomputable def k168_j0:List Item:=[.code (sndC (sndC (sndC b168)))]
noncomputable def k168_l0:List Item:=[.code (inC (inC (sndC (fstC (sndC (sndC b168)))))), .inLoop (inC (inC (sndC (fstC (sndC (sndC b168)))))), .inBlock 0, .code (sndC (sndC (sndC b168)))]
def a168 (s:ByteArray):List (AV Ty):=[.v (.string s)]
noncomputable def R168 (s:ByteArray):St Ty→EvR:=resT tb C168 Try.f168.results.toList .keep (a168 s)
def s168_l0 (s:ByteArray) (v3:Int):St Ty:=St.mk [(0, .v (.string s)),(3, .v (.int .i64 v3))] []
def s168_j0 (s:ByteArray):St Ty:=St.mk [] []
theorem e168 (J s):run tb C168 U168 J (R168 s) 4096 [.code b168] ⟨slotsA (a168 s) 0 0,heapA (a168 s)⟩=
 if decide ((↑s.size:Int)<1)=false then
 if decide ((↑s.size:Int)>12)=false then
 if 0<(↑s.size:Int) then
 if decide (btI s 0<97)=false then
 if 0<(↑s.size:Int) then
 if decide (btI s 0>122)=true then
 some (.v (.bool false),[.dead])
 else
 J k168_l0 (s168_l0 s 0)
 else none
 else
 some (.v (.bool false),[.dead])
 else none
 else
 some (.v (.bool false),[.dead])
 else
 some (.v (.bool false),[.dead]):=by kernel_rfl
theorem e168_l0 (J s v3):run tb C168 U168 J (R168 s) 4096 k168_l0 (s168_l0 s v3)=
 if decide (v3<(↑s.size:Int))=true then
 if 0≤v3 then
 if v3<(↑s.size:Int) then
 if decide (btI s v3<97)=false then
 if decide (btI s v3>122)=true then
 if decide (btI s v3<48)=false then
 if decide (btI s v3>57)=true then
 if (btI s v3 != 95)=true then
 some (.v (.bool false),[.dead])
 else
 J k168_l0 (s168_l0 s (IntKind.i64.wrap (v3+1)))
 else
 J k168_l0 (s168_l0 s (IntKind.i64.wrap (v3+1)))
 else
 if (btI s v3 != 95)=true then
 some (.v (.bool false),[.dead])
 else
 J k168_l0 (s168_l0 s (IntKind.i64.wrap (v3+1)))
 else
 J k168_l0 (s168_l0 s (IntKind.i64.wrap (v3+1)))
 else
 if decide (btI s v3<48)=false then
 if decide (btI s v3>57)=true then
 if (btI s v3 != 95)=true then
 some (.v (.bool false),[.dead])
 else
 J k168_l0 (s168_l0 s (IntKind.i64.wrap (v3+1)))
 else
 J k168_l0 (s168_l0 s (IntKind.i64.wrap (v3+1)))
 else
 if (btI s v3 != 95)=true then
 some (.v (.bool false),[.dead])
 else
 J k168_l0 (s168_l0 s (IntKind.i64.wrap (v3+1)))
 else none
 else none
 else
 J k168_j0 (s168_j0 s):=by kernel_rfl
theorem e168_j0 (J s):run tb C168 U168 J (R168 s) 4096 k168_j0 (s168_j0 s)=
 some (.v (.bool true),[.dead]):=by kernel_rfl

theorem in168:Entered 168:=⟨Try.f168,b168,by kernel_rfl,by kernel_rfl,by kernel_rfl⟩
theorem fn168 (s:ByteArray) {res:AV Ty} {outs:List (AV Ty)} (h:Ends C168 U168 (R168 s) [.code b168] ⟨slotsA (a168 s) 0 0,heapA (a168 s)⟩ (some (res,outs))):CallOk tb Try.prog 168 (a168 s) res outs:=by
 obtain ⟨n0,hn⟩:=h
 exact fn_ok (C:=C168) (U:=U168) (n:=0+n0) (q:= .keep) tbOk good (fun f mu S h=>by cases h) mixed (fn:=Try.f168) (body:=b168) (by kernel_rfl) (by kernel_rfl) rfl rfl (by show 1≤50;omega) (hn 0)
theorem name_says (s:ByteArray):Says C168 U168 (R168 s) rD [.code b168] ⟨slotsA (a168 s) 0 0,heapA (a168 s)⟩ True:=by
 refine (Way.says (k':=k168_l0) (s':=s168_l0 s (0:Nat)) (Q:=s.size≤12) (Q':=True) (Way.of (fun J=>e168 J s) ?_) fun hs=> ?_).mono fun _=>trivial
 ·repeat' first|refine tree_qt (fun _=> ?_) (fun _=> ?_)|refine tree_qf (fun _=> ?_) (fun _=> ?_)|refine tree_nt (fun _=> ?_) (fun _=> ?_)|refine tree_nf (fun _=> ?_) (fun _=> ?_)|refine tree_et (fun _=> ?_) (fun _=> ?_)|refine tree_ef (fun _=> ?_) (fun _=> ?_)|refine tree_dt (fun _=> ?_) (fun _=> ?_)|refine tree_df (fun _=> ?_) (fun _=> ?_)|refine tree_bt (fun _=> ?_) (fun _=> ?_)|refine tree_bf (fun _=> ?_) (fun _=> ?_)|refine tree_ite (fun _=> ?_) (fun _=> ?_)
  all_goals first|exact WayT.no (fun J=>rfl)|exact WayT.yes (fun J=>rfl) (by omega)|(exfalso;omega)
 refine (Way.says (k':=k168_l0) (s':=s168_l0 s s.size) (Q':=True) (Way.upto (fun i=>s168_l0 s i) s.size (fun _=>True) (fun i hi _=>Way.of (fun J=>e168_l0 J s i) ?_) _ (Nat.le_refl _)) fun _=> ?_).mono fun _=>trivial
 ·have w:IntKind.i64.wrap ((i:Int)+1)=((i+1:Nat):Int):=wrap_nat (by omega) (by omega)
  rw [w]
  repeat' first|refine tree_qt (fun _=> ?_) (fun _=> ?_)|refine tree_qf (fun _=> ?_) (fun _=> ?_)|refine tree_nt (fun _=> ?_) (fun _=> ?_)|refine tree_nf (fun _=> ?_) (fun _=> ?_)|refine tree_et (fun _=> ?_) (fun _=> ?_)|refine tree_ef (fun _=> ?_) (fun _=> ?_)|refine tree_dt (fun _=> ?_) (fun _=> ?_)|refine tree_df (fun _=> ?_) (fun _=> ?_)|refine tree_bt (fun _=> ?_) (fun _=> ?_)|refine tree_bf (fun _=> ?_) (fun _=> ?_)|refine tree_ite (fun _=> ?_) (fun _=> ?_)
  all_goals first|exact WayT.no (fun J=>rfl)|exact WayT.yes (fun J=>rfl) trivial|(exfalso;omega)
 refine Goes.says (k':=k168_j0) (s':=s168_j0 s) (.step fun J=> ?_) (.yes (.step fun J=>e168_j0 J s) trivial)
 rw [e168_l0]
 simp (disch:=first|omega|assumption|(rw [dT];omega)|(rw [dF];omega)) only [↓iP,↓iN,iT,iF,wrap_up,tN,Nat.zero_add]
theorem name_ok (s:ByteArray): ∃b,Tells 168 (a168 s) [.dead] True b:=by
 obtain ⟨b,h,_⟩:=name_says s
 exact ⟨b,fn168 s h,fun _=>trivial⟩
noncomputable def nameB (s:ByteArray):Bool:=told 168 (a168 s) [.dead] True
noncomputable def S168:List (AV Ty)→T (AV Ty×List (AV Ty))
 |[.v (.string s)]=> .ret (.v (.bool (nameB s)),[.dead])
 |_=> .fail
theorem S168_ok (l:List (AV Ty)) (r:AV Ty) (outs:List (AV Ty)) (h:(S168 l).val=some (r,outs)):CallOk tb Try.prog 168 l r outs:=by
 unfold S168 at h
 split at h
 ·cases h;exact (told_ok (name_ok _)).1
 ·cases h
noncomputable def b149:Code:=bodyOf Try.f149
noncomputable def C149:Cfg Ty:=⟨fun
 |168=>some ([],S168)
 |_=>none,fun
 |1000000=>true
 |_=>false,18,0⟩
def U149:Cuts:=⟨fun _=>none,fun _=>none,fun _=>none⟩
def a149 (kv:List (Value×Int)) (s:ByteArray):List (AV Ty):=[AV.mp none IntKind.i64 kv, .v (.string s)]
noncomputable def R149 (kv:List (Value×Int)) (s:ByteArray):St Ty→EvR:=resM tb Try.f149.results.toList
theorem e149 (J kv s):run tb C149 U149 J (R149 kv s) 4096 [.code b149] ⟨slotsA (a149 kv s) 0 0,heapA (a149 kv s)⟩=
 if (!nameB s)=false then
 if decide ((match mget (mput kv (.string s) (IntKind.i64.wrap ((match mget kv (.string s) with|some x=>x|none=>0)+1))) (.string s) with|some x=>x|none=>0)>1)=true then
 some (.v (.int .i64 1),[AV.mp none IntKind.i64 (mput kv (.string s) (IntKind.i64.wrap ((match mget kv (.string s) with|some x=>x|none=>0)+1)))])
 else
 some (.v (.int .i64 0),[AV.mp none IntKind.i64 (mput kv (.string s) (IntKind.i64.wrap ((match mget kv (.string s) with|some x=>x|none=>0)+1)))])
 else
 some (.v (.int .i64 1),[AV.mp none IntKind.i64 (mput kv (.string s) (IntKind.i64.wrap ((match mget kv (.string s) with|some x=>x|none=>0)+1)))]):=by kernel_rfl

theorem in149:Entered 149:=⟨Try.f149,b149,by kernel_rfl,by kernel_rfl,by kernel_rfl⟩
theorem fn149 (kv:List (Value×Int)) (s:ByteArray) {res:AV Ty} {outs:List (AV Ty)} (h:Ends C149 U149 (R149 kv s) [.code b149] ⟨slotsA (a149 kv s) 0 0,heapA (a149 kv s)⟩ (some (res,outs))) (hr: ∃x kv',res= .v x∧outs=[.mp none .i64 kv']):CallOk tb Try.prog 149 (a149 kv s) res outs:=by
 obtain ⟨n0,hn⟩:=h
 exact fn_map (C:=C149) (U:=U149) (n:=0+n0) tbOk good (fun f mu S h=>by
  unfold C149 at h
  simp only at h
  split at h
  ·cases h;exact ⟨in168,S168_ok⟩
  ·cases h) mixed (fn:=Try.f149) (body:=b149) (by kernel_rfl) (by kernel_rfl) rfl rfl (kd:=none) (q:= .i64) (kv:=kv) (xs:=[.string s]) rfl (by show 2≤18;omega) (hn 0) rfl hr
def AnsM (F:Jt→EvR):Prop:= ∃p:Int×List (Value×Int),∀J,F J=some (.v (.int .i64 p.1),[.mp none .i64 p.2])
theorem one_tree (kv:List (Value×Int)) (s:ByteArray):AnsM (fun J=>run tb C149 U149 J (R149 kv s) 4096 [.code b149] ⟨slotsA (a149 kv s) 0 0,heapA (a149 kv s)⟩):=by
 rw [show (fun J:Jt=>run tb C149 U149 J (R149 kv s) 4096 [.code b149] ⟨slotsA (a149 kv s) 0 0,heapA (a149 kv s)⟩)=_ from funext fun J=>e149 J kv s]
 repeat' first|refine tree_qt (fun _=> ?_) (fun _=> ?_)|refine tree_qf (fun _=> ?_) (fun _=> ?_)|refine tree_nt (fun _=> ?_) (fun _=> ?_)|refine tree_nf (fun _=> ?_) (fun _=> ?_)|refine tree_et (fun _=> ?_) (fun _=> ?_)|refine tree_ef (fun _=> ?_) (fun _=> ?_)|refine tree_dt (fun _=> ?_) (fun _=> ?_)|refine tree_df (fun _=> ?_) (fun _=> ?_)|refine tree_bt (fun _=> ?_) (fun _=> ?_)|refine tree_bf (fun _=> ?_) (fun _=> ?_)|refine tree_ite (fun _=> ?_) (fun _=> ?_)
 all_goals exact ⟨(_,_),fun J=>rfl⟩
theorem one_ex (kv:List (Value×Int)) (s:ByteArray): ∃p:Int×List (Value×Int),CallOk tb Try.prog 149 (a149 kv s) (.v (.int .i64 p.1)) [.mp none .i64 p.2]:=by
 obtain ⟨p,h⟩:=one_tree kv s
 exact ⟨p,fn149 kv s (.step h) ⟨_,_,rfl,rfl⟩⟩
noncomputable def oneI (kv:List (Value×Int)) (s:ByteArray):Int:=(Classical.choose (one_ex kv s)).1
noncomputable def oneM (kv:List (Value×Int)) (s:ByteArray):List (Value×Int):=(Classical.choose (one_ex kv s)).2
noncomputable def S149:List (AV Ty)→T (AV Ty×List (AV Ty))
 |[.mp none .i64 kv, .v (.string s)]=> .ret (.v (.int .i64 (oneI kv s)),[.mp none .i64 (oneM kv s)])
 |_=> .fail
theorem S149_ok (l:List (AV Ty)) (r:AV Ty) (outs:List (AV Ty)) (h:(S149 l).val=some (r,outs)):CallOk tb Try.prog 149 l r outs:=by
 unfold S149 at h
 split at h
 ·cases h;exact Classical.choose_spec (one_ex _ _)
 ·cases h
end Go.Proofs.Ytggibjbcbicpjaa.Ev
namespace Go.Proofs.Ytggibjbcbicpjaa.Ev
open Go
set_option linter.unusedVariables false
set_option linter.unusedSimpArgs false
def FnQ (f:Ev.Func):Prop:= ∀b,b<f.blocks.length→ ∀k,k<(f.blocks.getD b (Block.mk [])).ins.length→FormQ ((f.blocks.getD b (Block.mk [])).ins.getD k (Ins.mk 0 0 0 0 0 [] []))
theorem formB_q {i:Ev.Ins} (h:formB i=true):FormQ i:=(told_ok (form_ok i)).2 h
theorem okM.x {m:Ev.Module} (h:okM m) {i:Nat} (hi:i<m.externs.length):(m.externs.getD i (Extern.mk ByteArray.empty [] 0)).params.length≤1000:=h.2.1 _ (getD_mem hi)
theorem okM.g {m:Ev.Module} (h:okM m) {i:Nat} (hi:i<m.globals.length):(m.globals.getD i (Global.mk ByteArray.empty [])).cells.length≤1000:=h.2.2.1 _ (getD_mem hi)
theorem okM.t {m:Ev.Module} (h:okM m) {i:Nat} (hi:i<m.tables.length):(m.tables.getD i (Table.mk ByteArray.empty [])).funcs.length≤1000:=h.2.2.2.1 _ (getD_mem hi)
theorem okM.f {m:Ev.Module} (h:okM m) {i:Nat} (hi:i<m.funcs.length):okF (m.funcs.getD i (Func.mk ByteArray.empty false [] 0 [])):=h.2.2.2.2 _ (getD_mem hi)
theorem okF.b {f:Ev.Func} (h:okF f) {b:Nat} (hb:b<f.blocks.length):(f.blocks.getD b (Block.mk [])).ins.length≤1000:=(h.2.2 _ (getD_mem hb)).1
noncomputable def b125:Code:=bodyOf Try.f125
noncomputable def C125:Cfg Ty:=⟨fun
 |148=>some ([],S148)
 |_=>none,fun _=>false,148,0⟩
def U125:Cuts:=⟨fun
 |0=>some [(1,none)]
 |1=>some [(1,none),(3,none)]
 |2=>some [(1,none),(3,none)]
 |4=>some []
 |5=>some [(1,none),(6,none)]
 |6=>some [(1,none),(6,none),(7,none)]
 |8=>some [(1,none),(6,none)]
 |9=>some [(1,none),(6,none),(7,none),(9,none)]
 |10=>some [(1,none),(6,none),(7,none),(9,none)]
 |_=>none,fun
 |0=>some [(1,none),(3,none)]
 |2=>some [(1,none),(3,none),(4,none),(5,none)]
 |4=>some [(1,none),(6,none)]
 |6=>some [(1,none),(6,none),(7,none),(8,none)]
 |8=>some [(1,none),(6,none),(7,none),(9,none)]
 |10=>some [(1,none),(6,none),(7,none),(9,none),(10,none)]
 |_=>none,fun _=>none⟩
noncomputable def k125_j0:List Item:=[.code (sndC (sndC b125))]
noncomputable def k125_l0:List Item:=[.code (inC (inC (sndC (fstC (sndC b125))))), .inLoop (inC (inC (sndC (fstC (sndC b125))))), .inBlock 0, .code (sndC (sndC b125))]
noncomputable def k125_j1:List Item:=[.code (sndC (sndC (inC (inC (sndC (fstC (sndC b125))))))), .inLoop (inC (inC (sndC (fstC (sndC b125))))), .inBlock 0, .code (sndC (sndC b125))]
noncomputable def k125_j2:List Item:=[.inBlock 1, .code (sndC (sndC (inC (inC (sndC (fstC (sndC b125))))))), .inLoop (inC (inC (sndC (fstC (sndC b125))))), .inBlock 0, .code (sndC (sndC b125))]
noncomputable def k125_l2:List Item:=[.code (inC (inC (sndC (sndC (sndC (inC (fstC (sndC (inC (inC (sndC (fstC (sndC b125))))))))))))), .inLoop (inC (inC (sndC (sndC (sndC (inC (fstC (sndC (inC (inC (sndC (fstC (sndC b125))))))))))))), .inBlock 2, .inBlock 1, .code (sndC (sndC (inC (inC (sndC (fstC (sndC b125))))))), .inLoop (inC (inC (sndC (fstC (sndC b125))))), .inBlock 0, .code (sndC (sndC b125))]
noncomputable def k125_j4:List Item:=[.code (sndC (sndC (sndC b125)))]
noncomputable def k125_l4:List Item:=[.code (inC (inC (sndC (fstC (sndC (sndC b125)))))), .inLoop (inC (inC (sndC (fstC (sndC (sndC b125)))))), .inBlock 4, .code (sndC (sndC (sndC b125)))]
noncomputable def k125_j5:List Item:=[.code (sndC (sndC (inC (inC (sndC (fstC (sndC (sndC b125)))))))), .inLoop (inC (inC (sndC (fstC (sndC (sndC b125)))))), .inBlock 4, .code (sndC (sndC (sndC b125)))]
noncomputable def k125_j6:List Item:=[.code (sndC (sndC (sndC (inC (fstC (sndC (inC (inC (sndC (fstC (sndC (sndC b125)))))))))))), .inBlock 5, .code (sndC (sndC (inC (inC (sndC (fstC (sndC (sndC b125)))))))), .inLoop (inC (inC (sndC (fstC (sndC (sndC b125)))))), .inBlock 4, .code (sndC (sndC (sndC b125)))]
noncomputable def k125_l6:List Item:=[.code (inC (inC (sndC (fstC (sndC (sndC (inC (fstC (sndC (inC (inC (sndC (fstC (sndC (sndC b125))))))))))))))), .inLoop (inC (inC (sndC (fstC (sndC (sndC (inC (fstC (sndC (inC (inC (sndC (fstC (sndC (sndC b125))))))))))))))), .inBlock 6, .code (sndC (sndC (sndC (inC (fstC (sndC (inC (inC (sndC (fstC (sndC (sndC b125)))))))))))), .inBlock 5, .code (sndC (sndC (inC (inC (sndC (fstC (sndC (sndC b125)))))))), .inLoop (inC (inC (sndC (fstC (sndC (sndC b125)))))), .inBlock 4, .code (sndC (sndC (sndC b125)))]
noncomputable def k125_j8:List Item:=[.inBlock 5, .code (sndC (sndC (inC (inC (sndC (fstC (sndC (sndC b125)))))))), .inLoop (inC (inC (sndC (fstC (sndC (sndC b125)))))), .inBlock 4, .code (sndC (sndC (sndC b125)))]
noncomputable def k125_l8:List Item:=[.code (inC (inC (sndC (sndC (sndC (sndC (inC (fstC (sndC (inC (inC (sndC (fstC (sndC (sndC b125))))))))))))))), .inLoop (inC (inC (sndC (sndC (sndC (sndC (inC (fstC (sndC (inC (inC (sndC (fstC (sndC (sndC b125))))))))))))))), .inBlock 8, .inBlock 5, .code (sndC (sndC (inC (inC (sndC (fstC (sndC (sndC b125)))))))), .inLoop (inC (inC (sndC (fstC (sndC (sndC b125)))))), .inBlock 4, .code (sndC (sndC (sndC b125)))]
noncomputable def k125_j9:List Item:=[.code (sndC (sndC (inC (inC (sndC (sndC (sndC (sndC (inC (fstC (sndC (inC (inC (sndC (fstC (sndC (sndC b125))))))))))))))))), .inLoop (inC (inC (sndC (sndC (sndC (sndC (inC (fstC (sndC (inC (inC (sndC (fstC (sndC (sndC b125))))))))))))))), .inBlock 8, .inBlock 5, .code (sndC (sndC (inC (inC (sndC (fstC (sndC (sndC b125)))))))), .inLoop (inC (inC (sndC (fstC (sndC (sndC b125)))))), .inBlock 4, .code (sndC (sndC (sndC b125)))]
noncomputable def k125_j10:List Item:=[.inBlock 9, .code (sndC (sndC (inC (inC (sndC (sndC (sndC (sndC (inC (fstC (sndC (inC (inC (sndC (fstC (sndC (sndC b125))))))))))))))))), .inLoop (inC (inC (sndC (sndC (sndC (sndC (inC (fstC (sndC (inC (inC (sndC (fstC (sndC (sndC b125))))))))))))))), .inBlock 8, .inBlock 5, .code (sndC (sndC (inC (inC (sndC (fstC (sndC (sndC b125)))))))), .inLoop (inC (inC (sndC (fstC (sndC (sndC b125)))))), .inBlock 4, .code (sndC (sndC (sndC b125)))]
noncomputable def k125_l10:List Item:=[.code (inC (inC (sndC (inC (fstC (sndC (inC (inC (sndC (sndC (sndC (sndC (inC (fstC (sndC (inC (inC (sndC (fstC (sndC (sndC b125))))))))))))))))))))), .inLoop (inC (inC (sndC (inC (fstC (sndC (inC (inC (sndC (sndC (sndC (sndC (inC (fstC (sndC (inC (inC (sndC (fstC (sndC (sndC b125))))))))))))))))))))), .inBlock 10, .inBlock 9, .code (sndC (sndC (inC (inC (sndC (sndC (sndC (sndC (inC (fstC (sndC (inC (inC (sndC (fstC (sndC (sndC b125))))))))))))))))), .inLoop (inC (inC (sndC (sndC (sndC (sndC (inC (fstC (sndC (inC (inC (sndC (fstC (sndC (sndC b125))))))))))))))), .inBlock 8, .inBlock 5, .code (sndC (sndC (inC (inC (sndC (fstC (sndC (sndC b125)))))))), .inLoop (inC (inC (sndC (fstC (sndC (sndC b125)))))), .inBlock 4, .code (sndC (sndC (sndC b125)))]
def a125 (m:Module):List (AV Ty):=[.agg [.sl false (91:Nat) m.externs, .sl false (94:Nat) m.globals, .sl false (96:Nat) m.tables, .sl false (33:Nat) m.funcs]]
noncomputable def R125 (m:Module):St Ty→EvR:=resT tb C125 Try.f125.results.toList .keep (a125 m)
def s125_l0 (m:Module) (v3:Int) (h0:List Module):St Ty:=St.mk [(1, .ptr (0) [] (0) (0)),(3, .v (.int .i64 v3))] [some (Root.mk (27) false h0)]
def s125_l2 (m:Module) (v3:Int) (v5:Int) (h0:List Module) (h1:List Extern):St Ty:=St.mk [(1, .ptr (0) [] (0) (0)),(3, .v (.int .i64 v3)),(4, .ptr (1) [] (0) (0)),(5, .v (.int .i64 v5))] [some (Root.mk (27) false h0),some (Root.mk (91) false h1)]
def s125_j0 (m:Module) (h0:List Module):St Ty:=St.mk [(1, .ptr (0) [] (0) (0))] [some (Root.mk (27) false h0)]
def s125_j2 (m:Module) (v3:Int) (h0:List Module):St Ty:=St.mk [(1, .ptr (0) [] (0) (0)),(3, .v (.int .i64 v3))] [some (Root.mk (27) false h0)]
def s125_l4 (m:Module) (v6:Int) (h0:List Module):St Ty:=St.mk [(1, .ptr (0) [] (0) (0)),(6, .v (.int .i64 v6))] [some (Root.mk (27) false h0)]
def s125_j1 (m:Module) (v3:Int) (h0:List Module):St Ty:=St.mk [(1, .ptr (0) [] (0) (0)),(3, .v (.int .i64 v3))] [some (Root.mk (27) false h0)]
def s125_l6 (m:Module) (v6:Int) (v8:Int) (h0:List Module) (h1:List Func):St Ty:=St.mk [(1, .ptr (0) [] (0) (0)),(6, .v (.int .i64 v6)),(7, .ptr (1) [] (0) (0)),(8, .v (.int .i64 v8))] [some (Root.mk (27) false h0),some (Root.mk (33) false h1)]
def s125_j4 (m:Module):St Ty:=St.mk [] []
def s125_j6 (m:Module) (v6:Int) (h0:List Module) (h1:List Func):St Ty:=St.mk [(1, .ptr (0) [] (0) (0)),(6, .v (.int .i64 v6)),(7, .ptr (1) [] (0) (0))] [some (Root.mk (27) false h0),some (Root.mk (33) false h1)]
def s125_l8 (m:Module) (v6:Int) (v9:Int) (h0:List Module) (h1:List Func):St Ty:=St.mk [(1, .ptr (0) [] (0) (0)),(6, .v (.int .i64 v6)),(7, .ptr (1) [] (0) (0)),(9, .v (.int .i64 v9))] [some (Root.mk (27) false h0),some (Root.mk (33) false h1)]
def s125_l10 (m:Module) (v6:Int) (v9:Int) (v10:Int) (h0:List Module) (h1:List Func):St Ty:=St.mk [(1, .ptr (0) [] (0) (0)),(6, .v (.int .i64 v6)),(7, .ptr (1) [] (0) (0)),(9, .v (.int .i64 v9)),(10, .v (.int .i64 v10))] [some (Root.mk (27) false h0),some (Root.mk (33) false h1)]
def s125_j8 (m:Module) (v6:Int) (h0:List Module):St Ty:=St.mk [(1, .ptr (0) [] (0) (0)),(6, .v (.int .i64 v6))] [some (Root.mk (27) false h0)]
def s125_j10 (m:Module) (v6:Int) (v9:Int) (h0:List Module) (h1:List Func):St Ty:=St.mk [(1, .ptr (0) [] (0) (0)),(6, .v (.int .i64 v6)),(7, .ptr (1) [] (0) (0)),(9, .v (.int .i64 v9))] [some (Root.mk (27) false h0),some (Root.mk (33) false h1)]
def s125_j5 (m:Module) (v6:Int) (h0:List Module):St Ty:=St.mk [(1, .ptr (0) [] (0) (0)),(6, .v (.int .i64 v6))] [some (Root.mk (27) false h0)]
def s125_j9 (m:Module) (v6:Int) (v9:Int) (h0:List Module) (h1:List Func):St Ty:=St.mk [(1, .ptr (0) [] (0) (0)),(6, .v (.int .i64 v6)),(7, .ptr (1) [] (0) (0)),(9, .v (.int .i64 v9))] [some (Root.mk (27) false h0),some (Root.mk (33) false h1)]
theorem e125 (J m):run tb C125 U125 J (R125 m) 4096 [.code b125] ⟨slotsA (a125 m) 0 0,heapA (a125 m)⟩=
 J k125_l0 (s125_l0 m 0 ([Module.mk m.externs m.globals m.tables m.funcs])):=by kernel_rfl
theorem e125_l0 (J m v3 h0):run tb C125 U125 J (R125 m) 4096 k125_l0 (s125_l0 m v3 h0)=
 if decide (v3<(↑(h0.getD (0) (Module.mk [] [] [] [])).externs.length:Int))=true then
 if 0≤v3 then
 if v3<(↑(h0.getD (0) (Module.mk [] [] [] [])).externs.length:Int) then
 if decide (((h0.getD (0) (Module.mk [] [] [] [])).externs.getD v3.toNat (Extern.mk ByteArray.empty [] 0)).result<0)=false then
 if decide (((h0.getD (0) (Module.mk [] [] [] [])).externs.getD v3.toNat (Extern.mk ByteArray.empty [] 0)).result>2)=true then
 some (.v (.bool false),[.dead])
 else
 J k125_l2 (s125_l2 m v3 0 h0 ([Extern.mk ((h0.getD (0) (Module.mk [] [] [] [])).externs.getD v3.toNat (Extern.mk ByteArray.empty [] 0)).name ((h0.getD (0) (Module.mk [] [] [] [])).externs.getD v3.toNat (Extern.mk ByteArray.empty [] 0)).params ((h0.getD (0) (Module.mk [] [] [] [])).externs.getD v3.toNat (Extern.mk ByteArray.empty [] 0)).result]))
 else
 some (.v (.bool false),[.dead])
 else none
 else none
 else
 J k125_j0 (s125_j0 m h0):=by kernel_rfl
theorem e125_l2 (J m v3 v5 h0 h1):run tb C125 U125 J (R125 m) 4096 k125_l2 (s125_l2 m v3 v5 h0 h1)=
 if decide (v5<(↑(h1.getD (0) (Extern.mk ByteArray.empty [] 0)).params.length:Int))=true then
 if 0≤v5 then
 if v5<(↑(h1.getD (0) (Extern.mk ByteArray.empty [] 0)).params.length:Int) then
 if ((h1.getD (0) (Extern.mk ByteArray.empty [] 0)).params.getD v5.toNat 0 != 1)=true then
 if 0≤v5 then
 if v5<(↑(h1.getD (0) (Extern.mk ByteArray.empty [] 0)).params.length:Int) then
 if ((h1.getD (0) (Extern.mk ByteArray.empty [] 0)).params.getD v5.toNat 0 != 2)=true then
 some (.v (.bool false),[.dead])
 else
 J k125_l2 (s125_l2 m v3 (IntKind.i64.wrap (v5+1)) h0 h1)
 else none
 else none
 else
 J k125_l2 (s125_l2 m v3 (IntKind.i64.wrap (v5+1)) h0 h1)
 else none
 else none
 else
 J k125_j2 (s125_j2 m v3 h0):=by kernel_rfl
theorem e125_j0 (J m h0):run tb C125 U125 J (R125 m) 4096 k125_j0 (s125_j0 m h0)=
 J k125_l4 (s125_l4 m 0 h0):=by kernel_rfl
theorem e125_j2 (J m v3 h0):run tb C125 U125 J (R125 m) 4096 k125_j2 (s125_j2 m v3 h0)=
 J k125_j1 (s125_j1 m v3 h0):=by kernel_rfl
theorem e125_l4 (J m v6 h0):run tb C125 U125 J (R125 m) 4096 k125_l4 (s125_l4 m v6 h0)=
 if decide (v6<(↑(h0.getD (0) (Module.mk [] [] [] [])).funcs.length:Int))=true then
 if 0≤v6 then
 if v6<(↑(h0.getD (0) (Module.mk [] [] [] [])).funcs.length:Int) then
 if decide (((h0.getD (0) (Module.mk [] [] [] [])).funcs.getD v6.toNat (Func.mk ByteArray.empty false [] 0 [])).result<0)=false then
 if decide (((h0.getD (0) (Module.mk [] [] [] [])).funcs.getD v6.toNat (Func.mk ByteArray.empty false [] 0 [])).result>4)=false then
 if (((h0.getD (0) (Module.mk [] [] [] [])).funcs.getD v6.toNat (Func.mk ByteArray.empty false [] 0 [])).result == 3)=false then
 if ((h0.getD (0) (Module.mk [] [] [] [])).funcs.getD v6.toNat (Func.mk ByteArray.empty false [] 0 [])).out=true then
 if decide (((h0.getD (0) (Module.mk [] [] [] [])).funcs.getD v6.toNat (Func.mk ByteArray.empty false [] 0 [])).result>2)=true then
 some (.v (.bool false),[.dead])
 else
 J k125_l6 (s125_l6 m v6 0 h0 ([Func.mk ((h0.getD (0) (Module.mk [] [] [] [])).funcs.getD v6.toNat (Func.mk ByteArray.empty false [] 0 [])).name ((h0.getD (0) (Module.mk [] [] [] [])).funcs.getD v6.toNat (Func.mk ByteArray.empty false [] 0 [])).out ((h0.getD (0) (Module.mk [] [] [] [])).funcs.getD v6.toNat (Func.mk ByteArray.empty false [] 0 [])).params ((h0.getD (0) (Module.mk [] [] [] [])).funcs.getD v6.toNat (Func.mk ByteArray.empty false [] 0 [])).result ((h0.getD (0) (Module.mk [] [] [] [])).funcs.getD v6.toNat (Func.mk ByteArray.empty false [] 0 [])).blocks]))
 else
 J k125_l6 (s125_l6 m v6 0 h0 ([Func.mk ((h0.getD (0) (Module.mk [] [] [] [])).funcs.getD v6.toNat (Func.mk ByteArray.empty false [] 0 [])).name ((h0.getD (0) (Module.mk [] [] [] [])).funcs.getD v6.toNat (Func.mk ByteArray.empty false [] 0 [])).out ((h0.getD (0) (Module.mk [] [] [] [])).funcs.getD v6.toNat (Func.mk ByteArray.empty false [] 0 [])).params ((h0.getD (0) (Module.mk [] [] [] [])).funcs.getD v6.toNat (Func.mk ByteArray.empty false [] 0 [])).result ((h0.getD (0) (Module.mk [] [] [] [])).funcs.getD v6.toNat (Func.mk ByteArray.empty false [] 0 [])).blocks]))
 else
 some (.v (.bool false),[.dead])
 else
 some (.v (.bool false),[.dead])
 else
 some (.v (.bool false),[.dead])
 else none
 else none
 else
 J k125_j4 (s125_j4 m):=by kernel_rfl
theorem e125_j1 (J m v3 h0):run tb C125 U125 J (R125 m) 4096 k125_j1 (s125_j1 m v3 h0)=
 J k125_l0 (s125_l0 m (IntKind.i64.wrap (v3+1)) h0):=by kernel_rfl
theorem e125_l6 (J m v6 v8 h0 h1):run tb C125 U125 J (R125 m) 4096 k125_l6 (s125_l6 m v6 v8 h0 h1)=
 if decide (v8<(↑(h1.getD (0) (Func.mk ByteArray.empty false [] 0 [])).params.length:Int))=true then
 if 0≤v8 then
 if v8<(↑(h1.getD (0) (Func.mk ByteArray.empty false [] 0 [])).params.length:Int) then
 if decide ((h1.getD (0) (Func.mk ByteArray.empty false [] 0 [])).params.getD v8.toNat 0<1)=false then
 if 0≤v8 then
 if v8<(↑(h1.getD (0) (Func.mk ByteArray.empty false [] 0 [])).params.length:Int) then
 if decide ((h1.getD (0) (Func.mk ByteArray.empty false [] 0 [])).params.getD v8.toNat 0>4)=false then
 if (h1.getD (0) (Func.mk ByteArray.empty false [] 0 [])).out=true then
 if 0≤v8 then
 if v8<(↑(h1.getD (0) (Func.mk ByteArray.empty false [] 0 [])).params.length:Int) then
 if decide ((h1.getD (0) (Func.mk ByteArray.empty false [] 0 [])).params.getD v8.toNat 0>2)=true then
 some (.v (.bool false),[.dead])
 else
 J k125_l6 (s125_l6 m v6 (IntKind.i64.wrap (v8+1)) h0 h1)
 else none
 else none
 else
 J k125_l6 (s125_l6 m v6 (IntKind.i64.wrap (v8+1)) h0 h1)
 else
 some (.v (.bool false),[.dead])
 else none
 else none
 else
 some (.v (.bool false),[.dead])
 else none
 else none
 else
 J k125_j6 (s125_j6 m v6 h0 h1):=by kernel_rfl
theorem e125_j4 (J m):run tb C125 U125 J (R125 m) 4096 k125_j4 (s125_j4 m)=
 some (.v (.bool true),[.dead]):=by kernel_rfl
theorem e125_j6 (J m v6 h0 h1):run tb C125 U125 J (R125 m) 4096 k125_j6 (s125_j6 m v6 h0 h1)=
 J k125_l8 (s125_l8 m v6 0 h0 h1):=by kernel_rfl
theorem e125_l8 (J m v6 v9 h0 h1):run tb C125 U125 J (R125 m) 4096 k125_l8 (s125_l8 m v6 v9 h0 h1)=
 if decide (v9<(↑(h1.getD (0) (Func.mk ByteArray.empty false [] 0 [])).blocks.length:Int))=true then
 J k125_l10 (s125_l10 m v6 v9 0 h0 h1)
 else
 J k125_j8 (s125_j8 m v6 h0):=by kernel_rfl
theorem e125_l10 (J m v6 v9 v10 h0 h1):run tb C125 U125 J (R125 m) 4096 k125_l10 (s125_l10 m v6 v9 v10 h0 h1)=
 if 0≤v9 then
 if v9<(↑(h1.getD (0) (Func.mk ByteArray.empty false [] 0 [])).blocks.length:Int) then
 if decide (v10<(↑((h1.getD (0) (Func.mk ByteArray.empty false [] 0 [])).blocks.getD v9.toNat (Block.mk [])).ins.length:Int))=true then
 if 0≤v9 then
 if v9<(↑(h1.getD (0) (Func.mk ByteArray.empty false [] 0 [])).blocks.length:Int) then
 if 0≤v10 then
 if v10<(↑((h1.getD (0) (Func.mk ByteArray.empty false [] 0 [])).blocks.getD v9.toNat (Block.mk [])).ins.length:Int) then
 if (!formB (Ins.mk (((h1.getD (0) (Func.mk ByteArray.empty false [] 0 [])).blocks.getD v9.toNat (Block.mk [])).ins.getD v10.toNat (Ins.mk 0 0 0 0 0 [] [])).op (((h1.getD (0) (Func.mk ByteArray.empty false [] 0 [])).blocks.getD v9.toNat (Block.mk [])).ins.getD v10.toNat (Ins.mk 0 0 0 0 0 [] [])).type_ (((h1.getD (0) (Func.mk ByteArray.empty false [] 0 [])).blocks.getD v9.toNat (Block.mk [])).ins.getD v10.toNat (Ins.mk 0 0 0 0 0 [] [])).to_ (((h1.getD (0) (Func.mk ByteArray.empty false [] 0 [])).blocks.getD v9.toNat (Block.mk [])).ins.getD v10.toNat (Ins.mk 0 0 0 0 0 [] [])).sym_ (((h1.getD (0) (Func.mk ByteArray.empty false [] 0 [])).blocks.getD v9.toNat (Block.mk [])).ins.getD v10.toNat (Ins.mk 0 0 0 0 0 [] [])).num (((h1.getD (0) (Func.mk ByteArray.empty false [] 0 [])).blocks.getD v9.toNat (Block.mk [])).ins.getD v10.toNat (Ins.mk 0 0 0 0 0 [] [])).args (((h1.getD (0) (Func.mk ByteArray.empty false [] 0 [])).blocks.getD v9.toNat (Block.mk [])).ins.getD v10.toNat (Ins.mk 0 0 0 0 0 [] [])).into))=true then
 some (.v (.bool false),[.dead])
 else
 J k125_l10 (s125_l10 m v6 v9 (IntKind.i64.wrap (v10+1)) h0 h1)
 else none
 else none
 else none
 else none
 else
 J k125_j10 (s125_j10 m v6 v9 h0 h1)
 else none
 else none:=by kernel_rfl
theorem e125_j8 (J m v6 h0):run tb C125 U125 J (R125 m) 4096 k125_j8 (s125_j8 m v6 h0)=
 J k125_j5 (s125_j5 m v6 h0):=by kernel_rfl
theorem e125_j10 (J m v6 v9 h0 h1):run tb C125 U125 J (R125 m) 4096 k125_j10 (s125_j10 m v6 v9 h0 h1)=
 J k125_j9 (s125_j9 m v6 v9 h0 h1):=by kernel_rfl
theorem e125_j5 (J m v6 h0):run tb C125 U125 J (R125 m) 4096 k125_j5 (s125_j5 m v6 h0)=
 J k125_l4 (s125_l4 m (IntKind.i64.wrap (v6+1)) h0):=by kernel_rfl
theorem e125_j9 (J m v6 v9 h0 h1):run tb C125 U125 J (R125 m) 4096 k125_j9 (s125_j9 m v6 v9 h0 h1)=
 J k125_l8 (s125_l8 m v6 (IntKind.i64.wrap (v9+1)) h0 h1):=by kernel_rfl

theorem in125:Entered 125:=⟨Try.f125,b125,by kernel_rfl,by kernel_rfl,by kernel_rfl⟩
theorem fn125 (m:Ev.Module) {res:AV Ty} {outs:List (AV Ty)} (h:Ends C125 U125 (R125 m) [.code b125] ⟨slotsA (a125 m) 0 0,heapA (a125 m)⟩ (some (res,outs))):CallOk tb Try.prog 125 (a125 m) res outs:=by
 obtain ⟨n0,hn⟩:=h
 exact fn_ok (C:=C125) (U:=U125) (n:=0+n0) (q:= .keep) tbOk good (fun f mu S h=>by
  unfold C125 at h
  simp only at h
  split at h
  ·cases h;exact ⟨in148,S148_ok⟩
  ·cases h) mixed (fn:=Try.f125) (body:=b125) (by kernel_rfl) (by kernel_rfl) rfl rfl (by show 1≤148;omega) (hn 0)
section
variable {m:Ev.Module}
theorem Forms.xp {x:Ev.Extern} (hx:x.params.length≤1000) {i j:Nat} (hj:j<x.params.length):Way C125 U125 (R125 m) (rD false) k125_l2 (s125_l2 m i j [m] [x]) k125_l2 (s125_l2 m i (j+1:Nat) [m] [x]) True:=by
 refine Way.of (fun J=>e125_l2 J m i j [m] [x]) ?_
 have w:IntKind.i64.wrap ((j:Int)+1)=((j+1:Nat):Int):=wrap_nat (by omega) (by omega)
 simp only [List.getD_cons_zero,Int.toNat_natCast,w]
 repeat' first|refine tree_qt (fun _=> ?_) (fun _=> ?_)|refine tree_qf (fun _=> ?_) (fun _=> ?_)|refine tree_nt (fun _=> ?_) (fun _=> ?_)|refine tree_nf (fun _=> ?_) (fun _=> ?_)|refine tree_et (fun _=> ?_) (fun _=> ?_)|refine tree_ef (fun _=> ?_) (fun _=> ?_)|refine tree_dt (fun _=> ?_) (fun _=> ?_)|refine tree_df (fun _=> ?_) (fun _=> ?_)|refine tree_bt (fun _=> ?_) (fun _=> ?_)|refine tree_bf (fun _=> ?_) (fun _=> ?_)|refine tree_ite (fun _=> ?_) (fun _=> ?_)
 all_goals first|exact WayT.no (fun J=>rfl)|exact WayT.yes (fun J=>rfl) (trivial)|(exfalso;omega)
theorem Forms.x (h:okM m) {i:Nat} (hi:i<m.externs.length):Way C125 U125 (R125 m) (rD false) k125_l0 (s125_l0 m i [m]) k125_l0 (s125_l0 m (i+1:Nat) [m]) True:=by
 have hl:=h.1.1
 have hx:=h.x hi
 refine (Way.trans (k':=k125_l2) (s':=s125_l2 m i (0:Nat) [m] [m.externs.getD i (Extern.mk ByteArray.empty [] 0)]) (Q:=True) (Q':=True) ?_ fun _=> ?_).mono fun _=>trivial
 ·refine Way.of (fun J=>e125_l0 J m i [m]) ?_
  simp only [List.getD_cons_zero,Int.toNat_natCast]
  repeat' first|refine tree_qt (fun _=> ?_) (fun _=> ?_)|refine tree_qf (fun _=> ?_) (fun _=> ?_)|refine tree_nt (fun _=> ?_) (fun _=> ?_)|refine tree_nf (fun _=> ?_) (fun _=> ?_)|refine tree_et (fun _=> ?_) (fun _=> ?_)|refine tree_ef (fun _=> ?_) (fun _=> ?_)|refine tree_dt (fun _=> ?_) (fun _=> ?_)|refine tree_df (fun _=> ?_) (fun _=> ?_)|refine tree_bt (fun _=> ?_) (fun _=> ?_)|refine tree_bf (fun _=> ?_) (fun _=> ?_)|refine tree_ite (fun _=> ?_) (fun _=> ?_)
  all_goals first|exact WayT.no (fun J=>rfl)|exact WayT.yes (fun J=>rfl) (trivial)|(exfalso;omega)
 refine ((Way.upto (fun j=>s125_l2 m i j [m] [m.externs.getD i (Extern.mk ByteArray.empty [] 0)]) _ (fun _=>True) (fun j hj _=>Forms.xp hx hj) _ (Nat.le_refl _)).mono fun _=>trivial).then fun _=> ?_
 refine Goes.trans (k':=k125_j2) (s':=s125_j2 m i [m]) (.step fun J=> ?_) (.trans (.step fun J=>e125_j2 ..) (.step fun J=> ?_))
 ·rw [e125_l2]
  simp only [List.getD_cons_zero,Int.toNat_natCast]
  simp (disch:=first|omega|assumption|(rw [dT];omega)|(rw [dF];omega)) only [↓iP,↓iN,iT,iF,wrap_up,tN,Nat.zero_add]
 ·rw [e125_j1,wrap_nat (n:=i+1) (by omega) (by omega)]
theorem Forms.fp {f:Ev.Func} (hf:f.params.length≤1000) {i j:Nat} (hj:j<f.params.length):Way C125 U125 (R125 m) (rD false) k125_l6 (s125_l6 m i j [m] [f]) k125_l6 (s125_l6 m i (j+1:Nat) [m] [f]) True:=by
 refine Way.of (fun J=>e125_l6 J m i j [m] [f]) ?_
 have w:IntKind.i64.wrap ((j:Int)+1)=((j+1:Nat):Int):=wrap_nat (by omega) (by omega)
 simp only [List.getD_cons_zero,Int.toNat_natCast,w]
 repeat' first|refine tree_qt (fun _=> ?_) (fun _=> ?_)|refine tree_qf (fun _=> ?_) (fun _=> ?_)|refine tree_nt (fun _=> ?_) (fun _=> ?_)|refine tree_nf (fun _=> ?_) (fun _=> ?_)|refine tree_et (fun _=> ?_) (fun _=> ?_)|refine tree_ef (fun _=> ?_) (fun _=> ?_)|refine tree_dt (fun _=> ?_) (fun _=> ?_)|refine tree_df (fun _=> ?_) (fun _=> ?_)|refine tree_bt (fun _=> ?_) (fun _=> ?_)|refine tree_bf (fun _=> ?_) (fun _=> ?_)|refine tree_ite (fun _=> ?_) (fun _=> ?_)
 all_goals first|exact WayT.no (fun J=>rfl)|exact WayT.yes (fun J=>rfl) (trivial)|(exfalso;omega)
theorem Forms.fi {f:Ev.Func} (hf:okF f) {i b k:Nat} (hb:b<f.blocks.length) (hk:k<(f.blocks.getD b (Block.mk [])).ins.length):Way C125 U125 (R125 m) (rD false) k125_l10 (s125_l10 m i b k [m] [f]) k125_l10 (s125_l10 m i b (k+1:Nat) [m] [f]) (FormQ ((f.blocks.getD b (Block.mk [])).ins.getD k (Ins.mk 0 0 0 0 0 [] []))):=by
 have h1:=hf.b hb
 refine Way.of (fun J=>e125_l10 J m i b k [m] [f]) ?_
 have w:IntKind.i64.wrap ((k:Int)+1)=((k+1:Nat):Int):=wrap_nat (by omega) (by omega)
 simp only [List.getD_cons_zero,Int.toNat_natCast,w]
 repeat' first|refine tree_qt (fun _=> ?_) (fun _=> ?_)|refine tree_qf (fun _=> ?_) (fun _=> ?_)|refine tree_nt (fun _=> ?_) (fun _=> ?_)|refine tree_nf (fun _=> ?_) (fun _=> ?_)|refine tree_et (fun _=> ?_) (fun _=> ?_)|refine tree_ef (fun _=> ?_) (fun _=> ?_)|refine tree_dt (fun _=> ?_) (fun _=> ?_)|refine tree_df (fun _=> ?_) (fun _=> ?_)|refine tree_bt (fun _=> ?_) (fun _=> ?_)|refine tree_bf (fun _=> ?_) (fun _=> ?_)|refine tree_ite (fun _=> ?_) (fun _=> ?_)
 all_goals first|exact WayT.no (fun J=>rfl)|exact WayT.yes (fun J=>rfl) (formB_q ‹_›)|(exfalso;omega)
theorem Forms.fb {f:Ev.Func} (hf:okF f) {i b:Nat} (hb:b<f.blocks.length):Way C125 U125 (R125 m) (rD false) k125_l8 (s125_l8 m i b [m] [f]) k125_l8 (s125_l8 m i (b+1:Nat) [m] [f]) (∀k,k<(f.blocks.getD b (Block.mk [])).ins.length→FormQ ((f.blocks.getD b (Block.mk [])).ins.getD k (Ins.mk 0 0 0 0 0 [] []))):=by
 have h0:=hf.2.1
 refine Goes.way (k':=k125_l10) (s':=s125_l10 m i b (0:Nat) [m] [f]) (.step fun J=> ?_) ?_
 ·rw [e125_l8]
  simp only [List.getD_cons_zero,Int.toNat_natCast]
  simp (disch:=first|omega|assumption|(rw [dT];omega)|(rw [dF];omega)) only [↓iP,↓iN,iT,iF,wrap_up,tN,Nat.zero_add]
  rfl
 refine (Way.upto (fun k=>s125_l10 m i b k [m] [f]) _ _ (fun k hk _=>Forms.fi hf hb hk) _ (Nat.le_refl _)).then fun _=> ?_
 refine Goes.trans (k':=k125_j10) (s':=s125_j10 m i b [m] [f]) (.step fun J=> ?_) (.trans (.step fun J=>e125_j10 ..) (.step fun J=> ?_))
 ·rw [e125_l10]
  simp only [List.getD_cons_zero,Int.toNat_natCast]
  simp (disch:=first|omega|assumption|(rw [dT];omega)|(rw [dF];omega)) only [↓iP,↓iN,iT,iF,wrap_up,tN,Nat.zero_add]
 ·rw [e125_j9,wrap_nat (n:=b+1) (by omega) (by omega)]
theorem Forms.f (h:okM m) {i:Nat} (hi:i<m.funcs.length):Way C125 U125 (R125 m) (rD false) k125_l4 (s125_l4 m i [m]) k125_l4 (s125_l4 m (i+1:Nat) [m]) (FnQ (m.funcs.getD i (Func.mk ByteArray.empty false [] 0 []))):=by
 have hl:=h.1.2.2.2
 have hf:=h.f hi
 refine (Way.trans (k':=k125_l6) (s':=s125_l6 m i (0:Nat) [m] [m.funcs.getD i (Func.mk ByteArray.empty false [] 0 [])]) (Q:=True) (Q':=True∧FnQ (m.funcs.getD i (Func.mk ByteArray.empty false [] 0 []))) ?_ fun _=> ?_).mono fun q=>q.2.2
 ·refine Way.of (fun J=>e125_l4 J m i [m]) ?_
  simp only [List.getD_cons_zero,Int.toNat_natCast]
  repeat' first|refine tree_qt (fun _=> ?_) (fun _=> ?_)|refine tree_qf (fun _=> ?_) (fun _=> ?_)|refine tree_nt (fun _=> ?_) (fun _=> ?_)|refine tree_nf (fun _=> ?_) (fun _=> ?_)|refine tree_et (fun _=> ?_) (fun _=> ?_)|refine tree_ef (fun _=> ?_) (fun _=> ?_)|refine tree_dt (fun _=> ?_) (fun _=> ?_)|refine tree_df (fun _=> ?_) (fun _=> ?_)|refine tree_bt (fun _=> ?_) (fun _=> ?_)|refine tree_bf (fun _=> ?_) (fun _=> ?_)|refine tree_ite (fun _=> ?_) (fun _=> ?_)
  all_goals first|exact WayT.no (fun J=>rfl)|exact WayT.yes (fun J=>rfl) (trivial)|(exfalso;omega)
 refine Way.trans (k':=k125_l8) (s':=s125_l8 m i (0:Nat) [m] [m.funcs.getD i (Func.mk ByteArray.empty false [] 0 [])]) (((Way.upto (fun j=>s125_l6 m i j [m] [m.funcs.getD i (Func.mk ByteArray.empty false [] 0 [])]) _ (fun _=>True) (fun j hj _=>Forms.fp hf.1 hj) _ (Nat.le_refl _)).mono fun _=>trivial).then fun _=> ?_) fun _=> ?_
 ·refine Goes.trans (k':=k125_j6) (s':=s125_j6 m i [m] [m.funcs.getD i (Func.mk ByteArray.empty false [] 0 [])]) (.step fun J=> ?_) (.step fun J=>e125_j6 ..)
  rw [e125_l6]
  simp only [List.getD_cons_zero,Int.toNat_natCast]
  simp (disch:=first|omega|assumption|(rw [dT];omega)|(rw [dF];omega)) only [↓iP,↓iN,iT,iF,wrap_up,tN,Nat.zero_add]
 refine (Way.upto (fun b=>s125_l8 m i b [m] [m.funcs.getD i (Func.mk ByteArray.empty false [] 0 [])]) _ _ (fun b hb _=>Forms.fb hf hb) _ (Nat.le_refl _)).then fun _=> ?_
 refine Goes.trans (k':=k125_j8) (s':=s125_j8 m i [m]) (.step fun J=> ?_) (.trans (.step fun J=>e125_j8 ..) (.step fun J=> ?_))
 ·rw [e125_l8]
  simp only [List.getD_cons_zero,Int.toNat_natCast]
  simp (disch:=first|omega|assumption|(rw [dT];omega)|(rw [dF];omega)) only [↓iP,↓iN,iT,iF,wrap_up,tN,Nat.zero_add]
 ·rw [e125_j5,wrap_nat (n:=i+1) (by omega) (by omega)]
end
def FormsQ (m:Ev.Module):Prop:= ∀i,i<m.funcs.length→FnQ (m.funcs.getD i (Func.mk ByteArray.empty false [] 0 []))
theorem forms_ok (m:Ev.Module) (h:okM m): ∃b,Tells 125 (a125 m) [.dead] (FormsQ m) b:=by
 have:Says C125 U125 (R125 m) rD [.code b125] ⟨slotsA (a125 m) 0 0,heapA (a125 m)⟩ (FormsQ m):=by
  refine Goes.says (k':=k125_l0) (s':=s125_l0 m (0:Nat) [m]) (.step fun J=>e125 ..) ?_
  refine (Way.says (Q':=FormsQ m) ((Way.upto (fun i=>s125_l0 m i [m]) _ (fun _=>True) (fun i hi _=>Forms.x h hi) _ (Nat.le_refl _)).mono fun _=>trivial) fun _=> ?_).mono fun q=>q.2
  refine Goes.says (k':=k125_l4) (s':=s125_l4 m (0:Nat) [m]) (.trans (k':=k125_j0) (s':=s125_j0 m [m]) (.step fun J=> ?_) (.step fun J=>e125_j0 ..)) ?_
  ·rw [e125_l0]
   simp only [List.getD_cons_zero,Int.toNat_natCast]
   simp (disch:=first|omega|assumption|(rw [dT];omega)|(rw [dF];omega)) only [↓iP,↓iN,iT,iF,wrap_up,tN,Nat.zero_add]
  refine (Way.says (Q':=True) (Way.upto (fun i=>s125_l4 m i [m]) _ _ (fun i hi _=>Forms.f h hi) _ (Nat.le_refl _)) fun _=> ?_).mono fun q=>q.1
  refine Goes.says (k':=k125_j4) (s':=s125_j4 m) (.step fun J=> ?_) (.yes (.step fun J=>e125_j4 ..) trivial)
  rw [e125_l4]
  simp only [List.getD_cons_zero,Int.toNat_natCast]
  simp (disch:=first|omega|assumption|(rw [dT];omega)|(rw [dF];omega)) only [↓iP,↓iN,iT,iF,wrap_up,tN,Nat.zero_add]
 obtain ⟨b,h1,h2⟩:=this
 exact ⟨b,fn125 m h1,h2⟩
end Go.Proofs.Ytggibjbcbicpjaa.Ev
namespace Go.Proofs.Ytggibjbcbicpjaa.Ev
open Go
set_option linter.unusedVariables false
set_option linter.unusedSimpArgs false
def lastB (f:Ev.Func) (b:Int):Bool:=decide (0≤b∧b<f.blocks.length∧0<(f.blocks.getD b.toNat (Block.mk [])).ins.length)
def lastI (f:Ev.Func) (b:Int):Ev.Ins:=match lastB f b with
 |true=>(f.blocks.getD b.toNat (Block.mk [])).ins.getD ((f.blocks.getD b.toNat (Block.mk [])).ins.length-1) (Ins.mk 0 0 0 0 0 [] [])
 |false=>(Ins.mk 0 0 0 0 0 [] [])
noncomputable def b180:Code:=bodyOf Try.f180
def C180:Cfg Ty:=⟨fun _=>none,fun _=>false,39,0⟩
def U180:Cuts:=⟨fun _=>none,fun _=>none,fun _=>none⟩
def a180 (f:Func) (b:Int):List (AV Ty):=[.agg [.v (.string f.name), .v (.bool f.out), .sl false (3:Nat) f.params, .v (.int .i64 f.result), .sl false (44:Nat) f.blocks], .v (.int .i64 b)]
noncomputable def R180 (f:Func) (b:Int):St Ty→EvR:=resT tb C180 Try.f180.results.toList .keep (a180 f b)
theorem e180 (J f b):run tb C180 U180 J (R180 f b) 4096 [.code b180] ⟨slotsA (a180 f b) 0 0,heapA (a180 f b)⟩=
 if decide (b<0)=false then
 if decide (b≥(↑f.blocks.length:Int))=false then
 if 0≤b then
 if b<(↑f.blocks.length:Int) then
 if ((↑(f.blocks.getD b.toNat (Block.mk [])).ins.length:Int) == 0)=true then
 some (.tup [.agg [.v (.int .i64 0), .v (.int .i64 0), .v (.int .i64 0), .v (.int .i64 0), .v (.int .i64 0), .sl false 3 [], .sl false 3 []], .v (.bool false)],[.dead, .dead])
 else
 if 0≤b then
 if b<(↑f.blocks.length:Int) then
 if 0≤IntKind.i64.wrap ((↑(f.blocks.getD b.toNat (Block.mk [])).ins.length:Int)-1) then
 if IntKind.i64.wrap ((↑(f.blocks.getD b.toNat (Block.mk [])).ins.length:Int)-1)<(↑(f.blocks.getD b.toNat (Block.mk [])).ins.length:Int) then
 some (.tup [.agg [.v (.int .i64 (rdI f.blocks b.toNat (IntKind.i64.wrap ((↑(f.blocks.getD b.toNat (Block.mk [])).ins.length:Int)-1)).toNat).op), .v (.int .i64 (rdI f.blocks b.toNat (IntKind.i64.wrap ((↑(f.blocks.getD b.toNat (Block.mk [])).ins.length:Int)-1)).toNat).type_), .v (.int .i64 (rdI f.blocks b.toNat (IntKind.i64.wrap ((↑(f.blocks.getD b.toNat (Block.mk [])).ins.length:Int)-1)).toNat).to_), .v (.int .i64 (rdI f.blocks b.toNat (IntKind.i64.wrap ((↑(f.blocks.getD b.toNat (Block.mk [])).ins.length:Int)-1)).toNat).sym_), .v (.int .i64 (rdI f.blocks b.toNat (IntKind.i64.wrap ((↑(f.blocks.getD b.toNat (Block.mk [])).ins.length:Int)-1)).toNat).num), .sl false 3 (rdI f.blocks b.toNat (IntKind.i64.wrap ((↑(f.blocks.getD b.toNat (Block.mk [])).ins.length:Int)-1)).toNat).args, .sl false 3 (rdI f.blocks b.toNat (IntKind.i64.wrap ((↑(f.blocks.getD b.toNat (Block.mk [])).ins.length:Int)-1)).toNat).into], .v (.bool true)],[.dead, .dead])
 else none
 else none
 else none
 else none
 else none
 else none
 else
 some (.tup [.agg [.v (.int .i64 0), .v (.int .i64 0), .v (.int .i64 0), .v (.int .i64 0), .v (.int .i64 0), .sl false 3 [], .sl false 3 []], .v (.bool false)],[.dead, .dead])
 else
 some (.tup [.agg [.v (.int .i64 0), .v (.int .i64 0), .v (.int .i64 0), .v (.int .i64 0), .v (.int .i64 0), .sl false 3 [], .sl false 3 []], .v (.bool false)],[.dead, .dead]):=by kernel_rfl

theorem in180:Entered 180:=⟨Try.f180,b180,by kernel_rfl,by kernel_rfl,by kernel_rfl⟩
theorem fn180 (f:Ev.Func) (b:Int) {res:AV Ty} {outs:List (AV Ty)} (h:Ends C180 U180 (R180 f b) [.code b180] ⟨slotsA (a180 f b) 0 0,heapA (a180 f b)⟩ (some (res,outs))):CallOk tb Try.prog 180 (a180 f b) res outs:=by
 obtain ⟨n0,hn⟩:=h
 exact fn_ok (C:=C180) (U:=U180) (n:=0+n0) (q:= .keep) tbOk good (fun f mu S h=>by cases h) mixed (fn:=Try.f180) (body:=b180) (by kernel_rfl) (by kernel_rfl) rfl rfl (by show 2≤39;omega) (hn 0)
theorem last_ok (f:Ev.Func) (b:Int) (h:okF f):CallOk tb Try.prog 180 (a180 f b) (.tup [.agg [.v (.int .i64 (lastI f b).op), .v (.int .i64 (lastI f b).type_), .v (.int .i64 (lastI f b).to_), .v (.int .i64 (lastI f b).sym_), .v (.int .i64 (lastI f b).num), .sl false 3 (lastI f b).args, .sl false 3 (lastI f b).into], .v (.bool (lastB f b))]) [.dead, .dead]:=by
 refine fn180 f b (.step fun J=> ?_)
 by_cases hb:0≤b∧b<f.blocks.length
 ·obtain ⟨h1,h2⟩:=hb
  have h3:=h.b (b:=b.toNat) (by omega)
  by_cases h4:0<(f.blocks.getD b.toNat (Block.mk [])).ins.length
  ·have e1:lastB f b=true:=decide_eq_true ⟨h1,h2,h4⟩
   have w:IntKind.i64.wrap (((f.blocks.getD b.toNat (Block.mk [])).ins.length:Int)-1)=(((f.blocks.getD b.toNat (Block.mk [])).ins.length-1:Nat):Int):=wrap_nat (by omega) (by omega)
   have n0:(((f.blocks.getD b.toNat (Block.mk [])).ins.length:Int) == 0)=false:=by rw [beq_eq_false_iff_ne];omega
   rw [e180,w,n0]
   unfold lastI
   rw [e1]
   simp (disch:=first|omega|assumption|(rw [dT];omega)|(rw [dF];omega)) only [↓iP,↓iN,iT,iF,wrap_up,tN,Nat.zero_add,Bool.false_eq_true]
   rfl
  ·have e1:lastB f b=false:=decide_eq_false fun e=>h4 e.2.2
   have n0:(((f.blocks.getD b.toNat (Block.mk [])).ins.length:Int) == 0)=true:=by rw [beq_iff_eq];omega
   rw [e180,n0]
   unfold lastI
   rw [e1]
   simp (disch:=first|omega|assumption|(rw [dT];omega)|(rw [dF];omega)) only [↓iP,↓iN,iT,iF,wrap_up,tN,Nat.zero_add]
   rfl
 ·have e1:lastB f b=false:=decide_eq_false fun e=>hb ⟨e.1,e.2.1⟩
  rw [e180]
  unfold lastI
  rw [e1]
  by_cases h1:b<0
  ·simp (disch:=first|omega|assumption|(rw [dT];omega)|(rw [dF];omega)) only [↓iP,↓iN,iT,iF,wrap_up,tN,Nat.zero_add]
   rfl
  ·simp (disch:=first|omega|assumption|(rw [dT];omega)|(rw [dF];omega)) only [↓iP,↓iN,iT,iF,wrap_up,tN,Nat.zero_add]
   rfl
def S180:List (AV Ty)→T (AV Ty×List (AV Ty))
 |[.agg x, .v (.int .i64 b)]=>match cod33.dec false x with
  |some f=> .ite (okF f) (okF.dec f) (.ret (.tup [.agg [.v (.int .i64 (lastI f b).op), .v (.int .i64 (lastI f b).type_), .v (.int .i64 (lastI f b).to_), .v (.int .i64 (lastI f b).sym_), .v (.int .i64 (lastI f b).num), .sl false 3 (lastI f b).args, .sl false 3 (lastI f b).into], .v (.bool (lastB f b))],[.dead, .dead])) .fail
  |none=> .fail
 |_=> .fail
theorem S180_ok (l:List (AV Ty)) (r:AV Ty) (outs:List (AV Ty)) (h:(S180 l).val=some (r,outs)):CallOk tb Try.prog 180 l r outs:=by
 unfold S180 at h
 split at h
 ·rename_i x b
  split at h
  ·rename_i f e1
   rcases ite_val h with ⟨e,h⟩|⟨_,h⟩
   ·cases h
    have h1:=cod33_ok.dec false x f e1
    subst h1
    exact last_ok f b e
   ·cases h
  ·cases h
 ·cases h
def nextStep (N:Nat) (out:List Int) (n:Int):List Int:=if 0≤n∧n<N∧n ∉ out then out++[n] else out
def nextL (f:Ev.Func) (b:Int):List Int:=if lastB f b=true∧((lastI f b).op=27∨(lastI f b).op=28) then (lastI f b).into.foldl (nextStep f.blocks.length) [] else []
theorem next_fold (N:Nat): ∀(l out:List Int),(∀n,n∈out→0≤n∧n<N)→out.Nodup→(∀n,n∈l.foldl (nextStep N) out→0≤n∧n<N)∧(l.foldl (nextStep N) out).Nodup∧(l.foldl (nextStep N) out).length≤out.length+l.length
 |[],out,h,hn=>⟨h,hn,by simp⟩
 |x :: l,out,h,hn=>by
  have h1:(∀n,n∈nextStep N out x→0≤n∧n<N)∧(nextStep N out x).Nodup∧(nextStep N out x).length≤out.length+1:=by
   unfold nextStep
   split
   ·rename_i hx
    refine ⟨fun n hm=> ?_,?_,by simp⟩
    ·rcases List.mem_append.1 hm with hm|hm
     ·exact h n hm
     ·rw [List.mem_singleton] at hm;subst hm;exact ⟨hx.1,hx.2.1⟩
    ·rw [List.nodup_append]
     refine ⟨hn,by simp,fun a ha b hb=> ?_⟩
     rw [List.mem_singleton] at hb
     subst hb
     rintro rfl
     exact hx.2.2 ha
   ·exact ⟨h,hn,by omega⟩
  obtain ⟨g1,g2,g3⟩:=next_fold N l (nextStep N out x) h1.1 h1.2.1
  refine ⟨g1,g2,?_⟩
  have:=h1.2.2
  simp only [List.foldl_cons,List.length_cons]
  omega
theorem lastI_in {f:Ev.Func} (h:okF f) (b:Int):(lastI f b).into.length≤1000:=by
 unfold lastI
 split
 ·rename_i e
  obtain ⟨h1,h2,h3⟩:=of_decide_eq_true e
  exact ((h.2.2 _ (getD_mem (d:=(Block.mk [])) (show b.toNat<f.blocks.length by omega))).2 _ (getD_mem (d:=(Ins.mk 0 0 0 0 0 [] [])) (show (f.blocks.getD b.toNat (Block.mk [])).ins.length-1<_ by omega))).2
 ·simp
theorem nextL_in {f:Ev.Func} {b n:Int} (h:n∈nextL f b):0≤n∧n<f.blocks.length:=by
 unfold nextL at h
 split at h
 ·exact (next_fold _ _ [] (fun _ h=>by cases h) List.nodup_nil).1 n h
 ·cases h
theorem nextL_len {f:Ev.Func} (h:okF f) (b:Int):(nextL f b).length≤1000:=by
 unfold nextL
 split
 ·have:=(next_fold f.blocks.length (lastI f b).into [] (fun _ h=>by cases h) List.nodup_nil).2.2
  have:=lastI_in h b
  simp only [List.length_nil] at*
  omega
 ·simp
noncomputable def b170:Code:=bodyOf Try.f170
noncomputable def C170:Cfg Ty:=⟨fun
 |180=>some ([],S180)
 |47=>some ([],S47)
 |_=>none,fun _=>false,60,0⟩
def U170:Cuts:=⟨fun
 |0=>some [(7,some 3)]
 |_=>none,fun
 |0=>some [(2,none),(5,none),(7,some 3),(8,none)]
 |_=>none,fun _=>none⟩
noncomputable def k170_j0:List Item:=[.code (sndC (sndC (sndC (sndC (sndC b170)))))]
noncomputable def k170_l0:List Item:=[.code (inC (inC (sndC (fstC (sndC (sndC (sndC (sndC b170)))))))), .inLoop (inC (inC (sndC (fstC (sndC (sndC (sndC (sndC b170)))))))), .inBlock 0, .code (sndC (sndC (sndC (sndC (sndC b170)))))]
def a170 (f:Func) (b:Int):List (AV Ty):=[.agg [.v (.string f.name), .v (.bool f.out), .sl false (3:Nat) f.params, .v (.int .i64 f.result), .sl false (44:Nat) f.blocks], .v (.int .i64 b)]
noncomputable def R170 (f:Func) (b:Int):St Ty→EvR:=resT tb C170 Try.f170.results.toList (.fro 3) (a170 f b)
def s170_l0 (f:Func) (b:Int) (v8:Int) (h0:List Func) (h1:List Ins) (h2:List Int):St Ty:=St.mk [(2, .ptr (0) [] (0) (0)),(5, .ptr (1) [] (0) (0)),(7, .ref (2) [] none false),(8, .v (.int .i64 v8))] [some (Root.mk (33) false h0),some (Root.mk (46) false h1),some (Root.mk (3) false h2)]
def s170_j0 (f:Func) (b:Int) (h0:List Int):St Ty:=St.mk [(7, .ref (0) [] none false)] [some (Root.mk (3) false h0)]
theorem e170 (J f b):run tb C170 U170 J (R170 f b) 4096 [.code b170] ⟨slotsA (a170 f b) 0 0,heapA (a170 f b)⟩=
 if okF (Func.mk f.name f.out f.params f.result f.blocks) then
 if (!lastB (Func.mk f.name f.out f.params f.result f.blocks) b)=false then
 if ((lastI (Func.mk f.name f.out f.params f.result f.blocks) b).op != 27)=true then
 if ((lastI (Func.mk f.name f.out f.params f.result f.blocks) b).op != 28)=true then
 some (.sl false 3 [],[.dead, .dead])
 else
 J k170_l0 (s170_l0 f b 0 ([Func.mk f.name f.out f.params f.result f.blocks]) ([Ins.mk (lastI (Func.mk f.name f.out f.params f.result f.blocks) b).op (lastI (Func.mk f.name f.out f.params f.result f.blocks) b).type_ (lastI (Func.mk f.name f.out f.params f.result f.blocks) b).to_ (lastI (Func.mk f.name f.out f.params f.result f.blocks) b).sym_ (lastI (Func.mk f.name f.out f.params f.result f.blocks) b).num (lastI (Func.mk f.name f.out f.params f.result f.blocks) b).args (lastI (Func.mk f.name f.out f.params f.result f.blocks) b).into]) ([]))
 else
 J k170_l0 (s170_l0 f b 0 ([Func.mk f.name f.out f.params f.result f.blocks]) ([Ins.mk (lastI (Func.mk f.name f.out f.params f.result f.blocks) b).op (lastI (Func.mk f.name f.out f.params f.result f.blocks) b).type_ (lastI (Func.mk f.name f.out f.params f.result f.blocks) b).to_ (lastI (Func.mk f.name f.out f.params f.result f.blocks) b).sym_ (lastI (Func.mk f.name f.out f.params f.result f.blocks) b).num (lastI (Func.mk f.name f.out f.params f.result f.blocks) b).args (lastI (Func.mk f.name f.out f.params f.result f.blocks) b).into]) ([]))
 else
 some (.sl false 3 [],[.dead, .dead])
 else none:=by kernel_rfl
theorem e170_l0 (J f b v8 h0 h1 h2):run tb C170 U170 J (R170 f b) 4096 k170_l0 (s170_l0 f b v8 h0 h1 h2)=
 if decide (v8<(↑(h1.getD (0) (Ins.mk 0 0 0 0 0 [] [])).into.length:Int))=true then
 if 0≤v8 then
 if v8<(↑(h1.getD (0) (Ins.mk 0 0 0 0 0 [] [])).into.length:Int) then
 if decide ((h1.getD (0) (Ins.mk 0 0 0 0 0 [] [])).into.getD v8.toNat 0≥0)=true then
 if decide ((h1.getD (0) (Ins.mk 0 0 0 0 0 [] [])).into.getD v8.toNat 0<(↑(h0.getD (0) (Func.mk ByteArray.empty false [] 0 [])).blocks.length:Int))=true then
 if h2.length≤4611686018427387904 then
 if (!inB h2 ((h1.getD (0) (Ins.mk 0 0 0 0 0 [] [])).into.getD v8.toNat 0))=true then
 if h2.length+[(h1.getD (0) (Ins.mk 0 0 0 0 0 [] [])).into.getD v8.toNat 0].length+1≤549755813888∧(h2.length+[(h1.getD (0) (Ins.mk 0 0 0 0 0 [] [])).into.getD v8.toNat 0].length+1)*8≤549755813888 then
 J k170_l0 (s170_l0 f b (IntKind.i64.wrap (v8+1)) h0 h1 (h2++[(h1.getD (0) (Ins.mk 0 0 0 0 0 [] [])).into.getD v8.toNat 0]))
 else none
 else
 J k170_l0 (s170_l0 f b (IntKind.i64.wrap (v8+1)) h0 h1 h2)
 else none
 else
 J k170_l0 (s170_l0 f b (IntKind.i64.wrap (v8+1)) h0 h1 h2)
 else
 J k170_l0 (s170_l0 f b (IntKind.i64.wrap (v8+1)) h0 h1 h2)
 else none
 else none
 else
 J k170_j0 (s170_j0 f b h2):=by kernel_rfl
theorem e170_j0 (J f b h0):run tb C170 U170 J (R170 f b) 4096 k170_j0 (s170_j0 f b h0)=
 some (.sl false (3) h0,[.dead, .dead]):=by kernel_rfl

theorem in170:Entered 170:=⟨Try.f170,b170,by kernel_rfl,by kernel_rfl,by kernel_rfl⟩
theorem fn170 (f:Ev.Func) (b:Int) {res:AV Ty} {outs:List (AV Ty)} (h:Ends C170 U170 (R170 f b) [.code b170] ⟨slotsA (a170 f b) 0 0,heapA (a170 f b)⟩ (some (res,outs))):CallOk tb Try.prog 170 (a170 f b) res outs:=by
 obtain ⟨n0,hn⟩:=h
 exact fn_ok (C:=C170) (U:=U170) (n:=0+n0) (q:=(.fro 3)) tbOk good (fun f mu S h=>by
  unfold C170 at h
  simp only at h
  split at h
  ·cases h;exact ⟨in180,S180_ok⟩
  ·cases h;exact ⟨in47,S47_ok⟩
  ·cases h) mixed (fn:=Try.f170) (body:=b170) (by kernel_rfl) (by kernel_rfl) rfl rfl (by show 2≤60;omega) (hn 0)
section
variable {f:Ev.Func} {b:Int}
theorem Next.step (h:okF f) {i:Nat} (hi:i<(lastI f b).into.length):Goes C170 U170 (R170 f b) k170_l0 (s170_l0 f b i [f] [lastI f b] (((lastI f b).into.take i).foldl (nextStep f.blocks.length) [])) k170_l0 (s170_l0 f b (i+1:Nat) [f] [lastI f b] (((lastI f b).into.take (i+1)).foldl (nextStep f.blocks.length) [])):= .step fun J=>by
 have hl:=lastI_in h b
 have w:IntKind.i64.wrap ((i:Int)+1)=((i+1:Nat):Int):=wrap_nat (by omega) (by omega)
 have hlen:=(next_fold f.blocks.length ((lastI f b).into.take i) [] (fun _ h=>by cases h) List.nodup_nil).2.2
 rw [List.length_nil,Nat.zero_add,List.length_take] at hlen
 rw [take_step (d:=0) hi,List.foldl_append,List.foldl_cons,List.foldl_nil]
 generalize ((lastI f b).into.take i).foldl (nextStep f.blocks.length) []=out at*
 rw [e170_l0]
 simp only [List.getD_cons_zero,Int.toNat_natCast,w]
 unfold nextStep
 by_cases h1:0≤(lastI f b).into.getD i 0
 ·by_cases h2:(lastI f b).into.getD i 0<f.blocks.length
  ·by_cases h3:(lastI f b).into.getD i 0∈out
   ·have e:inB out ((lastI f b).into.getD i 0)=true:=decide_eq_true h3
    rw [e,if_neg (c:=0≤_∧_) fun h=>h.2.2 h3]
    simp (disch:=first|omega|assumption|(rw [dT];omega)|(rw [dF];omega)) only [↓iP,↓iN,iT,iF,wrap_up,tN,Nat.zero_add,Bool.not_true,Bool.false_eq_true]
   ·have e:inB out ((lastI f b).into.getD i 0)=false:=decide_eq_false h3
    rw [e,if_pos (c:=0≤_∧_) ⟨h1,h2,h3⟩]
    simp (disch:=first|omega|assumption|(rw [dT];omega)|(rw [dF];omega)) only [↓iP,↓iN,iT,iF,wrap_up,tN,Nat.zero_add,Bool.not_false,List.length_singleton]
  ·rw [if_neg (c:=0≤_∧_) fun h=>h2 h.2.1]
   simp (disch:=first|omega|assumption|(rw [dT];omega)|(rw [dF];omega)) only [↓iP,↓iN,iT,iF,wrap_up,tN,Nat.zero_add]
 ·rw [if_neg (c:=0≤_∧_) fun h=>h1 h.1]
  simp (disch:=first|omega|assumption|(rw [dT];omega)|(rw [dF];omega)) only [↓iP,↓iN,iT,iF,wrap_up,tN,Nat.zero_add]
theorem next_ok (f:Ev.Func) (b:Int) (h:okF f):CallOk tb Try.prog 170 (a170 f b) (.sl false 3 (nextL f b)) [.dead, .dead]:=by
 refine fn170 f b ?_
 unfold nextL
 have e0:(Func.mk f.name f.out f.params f.result f.blocks)=f:=rfl
 have main:Ends C170 U170 (R170 f b) k170_l0 (s170_l0 f b (0:Nat) [f] [lastI f b] []) (some (.sl false 3 ((lastI f b).into.foldl (nextStep f.blocks.length) []),[.dead, .dead])):=by
  refine Goes.ends (Goes.upto (fun i=>s170_l0 f b i [f] [lastI f b] (((lastI f b).into.take i).foldl (nextStep f.blocks.length) [])) _ (fun i hi=>Next.step h hi) _ (Nat.le_refl _)) ?_
  rw [List.take_length]
  refine Goes.ends (k':=k170_j0) (s':=s170_j0 f b ((lastI f b).into.foldl (nextStep f.blocks.length) [])) (.step fun J=> ?_) (.step fun J=>e170_j0 ..)
  rw [e170_l0]
  simp only [List.getD_cons_zero,Int.toNat_natCast]
  simp (disch:=first|omega|assumption|(rw [dT];omega)|(rw [dF];omega)) only [↓iP,↓iN,iT,iF,wrap_up,tN,Nat.zero_add]
 cases hb:lastB f b with
 |false=>
  rw [if_neg (fun e=>by cases e.1)]
  refine .step fun J=> ?_
  rw [e170,e0,hb]
  simp (disch:=first|omega|assumption|(rw [dT];omega)|(rw [dF];omega)) only [↓iP,↓iN,iT,iF,wrap_up,tN,Nat.zero_add,h,Bool.not_false,Bool.true_eq_false]
  rfl
 |true=>
  by_cases h1:(lastI f b).op=27∨(lastI f b).op=28
  ·rw [if_pos ⟨rfl,h1⟩]
   refine Goes.ends (.step fun J=> ?_) main
   by_cases h2:(lastI f b).op=27
   ·have h3:((lastI f b).op != 27)=false:=by rw [h2];rfl
    rw [e170,e0,hb,h3]
    simp (disch:=first|omega|assumption|(rw [dT];omega)|(rw [dF];omega)) only [↓iP,↓iN,iT,iF,wrap_up,tN,Nat.zero_add,h,Bool.not_true,Bool.false_eq_true]
    rfl
   ·have h3:((lastI f b).op != 27)=true:=bne_iff_ne.2 h2
    have h4:((lastI f b).op != 28)=false:=by rw [show (lastI f b).op=28 by omega];rfl
    rw [e170,e0,hb,h3,h4]
    simp (disch:=first|omega|assumption|(rw [dT];omega)|(rw [dF];omega)) only [↓iP,↓iN,iT,iF,wrap_up,tN,Nat.zero_add,h,Bool.not_true,Bool.false_eq_true]
    rfl
  ·rw [if_neg fun e=>h1 e.2]
   have h2:((lastI f b).op != 27)=true:=bne_iff_ne.2 fun e=>h1 (.inl e)
   have h3:((lastI f b).op != 28)=true:=bne_iff_ne.2 fun e=>h1 (.inr e)
   refine .step fun J=> ?_
   rw [e170,e0,hb,h2,h3]
   simp (disch:=first|omega|assumption|(rw [dT];omega)|(rw [dF];omega)) only [↓iP,↓iN,iT,iF,wrap_up,tN,Nat.zero_add,h,Bool.not_true]
   rfl
end
def S170:List (AV Ty)→T (AV Ty×List (AV Ty))
 |[.agg x, .v (.int .i64 b)]=>match cod33.dec false x with
  |some f=> .ite (okF f) (okF.dec f) (.ret (.sl false 3 (nextL f b),[.dead, .dead])) .fail
  |none=> .fail
 |_=> .fail
theorem S170_ok (l:List (AV Ty)) (r:AV Ty) (outs:List (AV Ty)) (h:(S170 l).val=some (r,outs)):CallOk tb Try.prog 170 l r outs:=by
 unfold S170 at h
 split at h
 ·rename_i x b
  split at h
  ·rename_i f e1
   rcases ite_val h with ⟨e,h⟩|⟨_,h⟩
   ·cases h
    have h1:=cod33_ok.dec false x f e1
    subst h1
    exact next_ok f b e
   ·cases h
  ·cases h
 ·cases h
end Go.Proofs.Ytggibjbcbicpjaa.Ev
namespace Go.Proofs.Ytggibjbcbicpjaa.Ev
open Go
set_option linter.unusedVariables false
set_option linter.unusedSimpArgs false
def prevStep (b:Nat) (P:List (List Int)) (n:Int):List (List Int):=P.set n.toNat (P.getD n.toNat []++[(b:Int)])
def prevB (f:Ev.Func) (P:List (List Int)) (b:Nat):List (List Int):=(nextL f b).foldl (prevStep b) P
def prevL (f:Ev.Func):List (List Int):=(List.range f.blocks.length).foldl (prevB f) (List.replicate f.blocks.length [])
def RowsIn (N q:Nat) (P:List (List Int)):Prop:=P.length=N∧ ∀r,r∈P→(∀e,e∈r→0≤e∧e<N)∧r.length≤q
theorem prevStep_in {N q b:Nat} {P:List (List Int)} (h:RowsIn N q P) (hb:b<N) {n:Int}:RowsIn N (q+1) (prevStep b P n):=by
 unfold prevStep
 refine ⟨by rw [List.length_set];exact h.1,fun r hr=> ?_⟩
 rcases List.mem_or_eq_of_mem_set hr with hr|rfl
 ·exact ⟨(h.2 r hr).1,Nat.le_succ_of_le (h.2 r hr).2⟩
 ·by_cases hn:n.toNat<P.length
  ·obtain ⟨h1,h2⟩:=h.2 _ (getD_mem (d:=[]) hn)
   refine ⟨fun e he=> ?_,by simp only [List.length_append,List.length_singleton];omega⟩
   rcases List.mem_append.1 he with he|he
   ·exact h1 e he
   ·rw [List.mem_singleton] at he;subst he;omega
  ·have:P.getD n.toNat []=[]:=by simp [List.getD,Nat.not_lt.1 hn]
   rw [this]
   refine ⟨fun e he=> ?_,by simp⟩
   rw [List.nil_append,List.mem_singleton] at he
   subst he
   omega
theorem prevF_in {N b:Nat} (hb:b<N): ∀(l:List Int) {q:Nat} {P:List (List Int)},RowsIn N q P→RowsIn N (q+l.length) (l.foldl (prevStep b) P)
 |[],_,_,h=>h
 |x :: l,q,P,h=>by
  have:=prevF_in hb l (prevStep_in h hb (n:=x))
  rw [List.length_cons,show q+(l.length+1)=q+1+l.length by omega]
  exact this
theorem prevB_in {f:Ev.Func} (hf:okF f) {b:Nat} (hb:b<f.blocks.length) {P:List (List Int)} (h:RowsIn f.blocks.length (b*1000) P):RowsIn f.blocks.length ((b+1)*1000) (prevB f P b):=by
 have h1:=prevF_in hb (nextL f b) h
 have h2:=nextL_len hf b
 exact ⟨h1.1,fun r hr=>⟨(h1.2 r hr).1,by have:=(h1.2 r hr).2;omega⟩⟩
theorem prevN_in {f:Ev.Func} (hf:okF f): ∀ {b:Nat},b≤f.blocks.length→RowsIn f.blocks.length (b*1000) ((List.range b).foldl (prevB f) (List.replicate f.blocks.length []))
 |0,_=>⟨by simp,fun r hr=>by have:=List.eq_of_mem_replicate hr;subst this;simp⟩
 |b+1,hb=>by
  rw [List.range_succ,List.foldl_append,List.foldl_cons,List.foldl_nil]
  exact prevB_in hf (by omega) (prevN_in hf (by omega))
theorem prevL_in {f:Ev.Func} (hf:okF f):RowsIn f.blocks.length (f.blocks.length*1000) (prevL f):=prevN_in hf (Nat.le_refl _)
noncomputable def b152:Code:=bodyOf Try.f152
noncomputable def C152:Cfg Ty:=⟨fun
 |170=>some ([],S170)
 |_=>none,fun
 |10=>true
 |41=>true
 |40=>true
 |100042=>true
 |_=>false,44,0⟩
def U152:Cuts:=⟨fun
 |0=>some [(3,none)]
 |1=>some [(1,none),(3,none),(4,none)]
 |2=>some [(1,none),(3,none),(4,none)]
 |_=>none,fun
 |0=>some [(1,none),(3,none),(4,none)]
 |2=>some [(1,none),(3,none),(4,none),(5,none),(6,none)]
 |_=>none,fun _=>none⟩
noncomputable def k152_j0:List Item:=[.code (sndC (sndC (sndC b152)))]
noncomputable def k152_l0:List Item:=[.code (inC (inC (sndC (fstC (sndC (sndC b152)))))), .inLoop (inC (inC (sndC (fstC (sndC (sndC b152)))))), .inBlock 0, .code (sndC (sndC (sndC b152)))]
noncomputable def k152_j1:List Item:=[.code (sndC (sndC (inC (inC (sndC (fstC (sndC (sndC b152)))))))), .inLoop (inC (inC (sndC (fstC (sndC (sndC b152)))))), .inBlock 0, .code (sndC (sndC (sndC b152)))]
noncomputable def k152_j2:List Item:=[.inBlock 1, .code (sndC (sndC (inC (inC (sndC (fstC (sndC (sndC b152)))))))), .inLoop (inC (inC (sndC (fstC (sndC (sndC b152)))))), .inBlock 0, .code (sndC (sndC (sndC b152)))]
noncomputable def k152_l2:List Item:=[.code (inC (inC (sndC (sndC (inC (fstC (sndC (inC (inC (sndC (fstC (sndC (sndC b152))))))))))))), .inLoop (inC (inC (sndC (sndC (inC (fstC (sndC (inC (inC (sndC (fstC (sndC (sndC b152))))))))))))), .inBlock 2, .inBlock 1, .code (sndC (sndC (inC (inC (sndC (fstC (sndC (sndC b152)))))))), .inLoop (inC (inC (sndC (fstC (sndC (sndC b152)))))), .inBlock 0, .code (sndC (sndC (sndC b152)))]
def a152 (f:Func):List (AV Ty):=[.agg [.v (.string f.name), .v (.bool f.out), .sl false (3:Nat) f.params, .v (.int .i64 f.result), .sl false (44:Nat) f.blocks]]
noncomputable def R152 (f:Func):St Ty→EvR:=resT tb C152 Try.f152.results.toList (.fro 30) (a152 f)
def s152_l0 (f:Func) (v4:Int) (h0:List Func) (h1:List (List Int)):St Ty:=St.mk [(1, .ptr (0) [] (0) (0)),(3, .ref (1) [] none false),(4, .v (.int .i64 v4))] [some (Root.mk (33) false h0),some (Root.mk (30) true h1)]
def s152_l2 (f:Func) (v4:Int) (v5:List Int) (v6:Int) (h0:List Func) (h1:List (List Int)):St Ty:=St.mk [(1, .ptr (0) [] (0) (0)),(3, .ref (1) [] none false),(4, .v (.int .i64 v4)),(5, .sl false (3) v5),(6, .v (.int .i64 v6))] [some (Root.mk (33) false h0),some (Root.mk (30) true h1)]
def s152_j0 (f:Func) (h0:List (List Int)):St Ty:=St.mk [(3, .ref (0) [] none false)] [some (Root.mk (30) true h0)]
def s152_j2 (f:Func) (v4:Int) (h0:List Func) (h1:List (List Int)):St Ty:=St.mk [(1, .ptr (0) [] (0) (0)),(3, .ref (1) [] none false),(4, .v (.int .i64 v4))] [some (Root.mk (33) false h0),some (Root.mk (30) true h1)]
def s152_j1 (f:Func) (v4:Int) (h0:List Func) (h1:List (List Int)):St Ty:=St.mk [(1, .ptr (0) [] (0) (0)),(3, .ref (1) [] none false),(4, .v (.int .i64 v4))] [some (Root.mk (33) false h0),some (Root.mk (30) true h1)]
theorem e152 (J f):run tb C152 U152 J (R152 f) 4096 [.code b152] ⟨slotsA (a152 f) 0 0,heapA (a152 f)⟩=
 if 0≤(↑f.blocks.length:Int)∧(↑f.blocks.length:Int)≤(↑f.blocks.length:Int)∧(↑f.blocks.length:Int)≤1099511627776∧(↑f.blocks.length:Int)*(↑24:Int)≤1099511627776 then
 J k152_l0 (s152_l0 f 0 ([Func.mk f.name f.out f.params f.result f.blocks]) (List.replicate (↑f.blocks.length:Int).toNat []))
 else none:=by kernel_rfl
theorem e152_l0 (J f v4 h0 h1):run tb C152 U152 J (R152 f) 4096 k152_l0 (s152_l0 f v4 h0 h1)=
 if decide (v4<(↑(h0.getD (0) (Func.mk ByteArray.empty false [] 0 [])).blocks.length:Int))=true then
 if okF (Func.mk (h0.getD (0) (Func.mk ByteArray.empty false [] 0 [])).name (h0.getD (0) (Func.mk ByteArray.empty false [] 0 [])).out (h0.getD (0) (Func.mk ByteArray.empty false [] 0 [])).params (h0.getD (0) (Func.mk ByteArray.empty false [] 0 [])).result (h0.getD (0) (Func.mk ByteArray.empty false [] 0 [])).blocks) then
 J k152_l2 (s152_l2 f v4 (nextL (Func.mk (h0.getD (0) (Func.mk ByteArray.empty false [] 0 [])).name (h0.getD (0) (Func.mk ByteArray.empty false [] 0 [])).out (h0.getD (0) (Func.mk ByteArray.empty false [] 0 [])).params (h0.getD (0) (Func.mk ByteArray.empty false [] 0 [])).result (h0.getD (0) (Func.mk ByteArray.empty false [] 0 [])).blocks) v4) 0 h0 h1)
 else none
 else
 J k152_j0 (s152_j0 f h1):=by kernel_rfl
theorem e152_l2 (J f v4 v5 v6 h0 h1):run tb C152 U152 J (R152 f) 4096 k152_l2 (s152_l2 f v4 v5 v6 h0 h1)=
 if decide (v6<(↑v5.length:Int))=true then
 if 0≤v6 then
 if v6<(↑v5.length:Int) then
 if 0≤v6 then
 if v6<(↑v5.length:Int) then
 if 0≤v5.getD v6.toNat 0 then
 if v5.getD v6.toNat 0<(↑h1.length:Int) then
 if List.length (h1.getD (0+Int.toNat (v5.getD v6.toNat 0)) [])+[v4].length+1≤549755813888∧(List.length (h1.getD (0+Int.toNat (v5.getD v6.toNat 0)) [])+[v4].length+1)*8≤549755813888 then
 if 0≤v5.getD v6.toNat 0 then
 if v5.getD v6.toNat 0<(↑h1.length:Int) then
 if []++[(0+Int.toNat (v5.getD v6.toNat 0),0)]=[(0+Int.toNat (v5.getD v6.toNat 0),0)] then
 J k152_l2 (s152_l2 f v4 v5 (IntKind.i64.wrap (v6+1)) h0 (h1.set (0+Int.toNat (v5.getD v6.toNat 0)) (h1.getD (0+Int.toNat (v5.getD v6.toNat 0)) []++[v4])))
 else none
 else none
 else none
 else none
 else none
 else none
 else none
 else none
 else none
 else none
 else
 J k152_j2 (s152_j2 f v4 h0 h1):=by kernel_rfl
theorem e152_j0 (J f h0):run tb C152 U152 J (R152 f) 4096 k152_j0 (s152_j0 f h0)=
 some (.sl false (30) h0,[.dead]):=by kernel_rfl
theorem e152_j2 (J f v4 h0 h1):run tb C152 U152 J (R152 f) 4096 k152_j2 (s152_j2 f v4 h0 h1)=
 J k152_j1 (s152_j1 f v4 h0 h1):=by kernel_rfl
theorem e152_j1 (J f v4 h0 h1):run tb C152 U152 J (R152 f) 4096 k152_j1 (s152_j1 f v4 h0 h1)=
 J k152_l0 (s152_l0 f (IntKind.i64.wrap (v4+1)) h0 h1):=by kernel_rfl

theorem in152:Entered 152:=⟨Try.f152,b152,by kernel_rfl,by kernel_rfl,by kernel_rfl⟩
theorem fn152 (f:Ev.Func) {res:AV Ty} {outs:List (AV Ty)} (h:Ends C152 U152 (R152 f) [.code b152] ⟨slotsA (a152 f) 0 0,heapA (a152 f)⟩ (some (res,outs))):CallOk tb Try.prog 152 (a152 f) res outs:=by
 obtain ⟨n0,hn⟩:=h
 exact fn_ok (C:=C152) (U:=U152) (n:=0+n0) (q:=(.fro 30)) tbOk good (fun f mu S h=>by
  unfold C152 at h
  simp only at h
  split at h
  ·cases h;exact ⟨in170,S170_ok⟩
  ·cases h) mixed (fn:=Try.f152) (body:=b152) (by kernel_rfl) (by kernel_rfl) rfl rfl (by show 1≤44;omega) (hn 0)
section
variable {f:Ev.Func}
theorem Prev.in (hf:okF f) {b i:Nat} (hb:b<f.blocks.length) (hi:i<(nextL f b).length) {P:List (List Int)} (hP:RowsIn f.blocks.length (b*1000) P):Goes C152 U152 (R152 f) k152_l2 (s152_l2 f b (nextL f b) i [f] (((nextL f b).take i).foldl (prevStep b) P)) k152_l2 (s152_l2 f b (nextL f b) (i+1:Nat) [f] (((nextL f b).take (i+1)).foldl (prevStep b) P)):= .step fun J=>by
 have hl:=nextL_len hf b
 have w:IntKind.i64.wrap ((i:Int)+1)=((i+1:Nat):Int):=wrap_nat (by omega) (by omega)
 have hn:=nextL_in (getD_mem (d:=0) hi)
 have h1:=prevF_in hb ((nextL f b).take i) hP
 have h0:=hf.2.1
 rw [List.length_take] at h1
 rw [take_step (d:=0) hi,List.foldl_append,List.foldl_cons,List.foldl_nil]
 generalize ((nextL f b).take i).foldl (prevStep b) P=out at*
 obtain ⟨n1,n2⟩:=hn
 have hlen:out.length=f.blocks.length:=h1.1
 have hr:=(h1.2 _ (getD_mem (d:=[]) (show ((nextL f b).getD i 0).toNat<out.length by omega))).2
 rw [e152_l2]
 simp only [List.getD_cons_zero,Int.toNat_natCast,w,Nat.zero_add]
 unfold prevStep
 generalize (nextL f b).getD i 0=n at*
 have c1:List.length (out.getD n.toNat [])+[(b:Int)].length+1≤549755813888∧(List.length (out.getD n.toNat [])+[(b:Int)].length+1)*8≤549755813888:=by
  rw [List.length_singleton]
  have:b*1000≤1000000:=by omega
  omega
 simp (disch:=first|omega|assumption|(rw [dT];omega)|(rw [dF];omega)) only [↓iP,↓iN,iT,iF,wrap_up,tN,Nat.zero_add,c1,List.nil_append,and_self]
theorem Prev.step (hf:okF f) {b:Nat} (hb:b<f.blocks.length) {P:List (List Int)} (hP:RowsIn f.blocks.length (b*1000) P):Goes C152 U152 (R152 f) k152_l0 (s152_l0 f b [f] P) k152_l0 (s152_l0 f (b+1:Nat) [f] (prevB f P b)):=by
 have h0:=hf.2.1
 have e0:(Func.mk f.name f.out f.params f.result f.blocks)=f:=rfl
 refine Goes.trans (k':=k152_l2) (s':=s152_l2 f b (nextL f b) (0:Nat) [f] P) (.step fun J=> ?_) ?_
 ·rw [e152_l0]
  simp only [List.getD_cons_zero,Int.toNat_natCast]
  rw [e0]
  simp (disch:=first|omega|assumption|(rw [dT];omega)|(rw [dF];omega)) only [↓iP,↓iN,iT,iF,wrap_up,tN,Nat.zero_add,hf]
  rfl
 refine (Goes.upto (fun i=>s152_l2 f b (nextL f b) i [f] (((nextL f b).take i).foldl (prevStep b) P)) _ (fun i hi=>Prev.in hf hb hi hP) _ (Nat.le_refl _)).trans ?_
 rw [List.take_length]
 refine Goes.trans (k':=k152_j2) (s':=s152_j2 f b [f] (prevB f P b)) (.step fun J=> ?_) (.trans (.step fun J=>e152_j2 ..) (.step fun J=> ?_))
 ·rw [e152_l2]
  simp only [List.getD_cons_zero,Int.toNat_natCast]
  simp (disch:=first|omega|assumption|(rw [dT];omega)|(rw [dF];omega)) only [↓iP,↓iN,iT,iF,wrap_up,tN,Nat.zero_add]
  rfl
 ·rw [e152_j1,wrap_nat (n:=b+1) (by omega) (by omega)]
theorem prev_ok (f:Ev.Func) (h:okF f):CallOk tb Try.prog 152 (a152 f) (.sl false 30 (prevL f)) [.dead]:=by
 have h0:=h.2.1
 refine fn152 f (Goes.ends (k':=k152_l0) (s':=s152_l0 f (0:Nat) [f] (List.replicate f.blocks.length [])) (.step fun J=> ?_) ?_)
 ·rw [e152]
  have c1:0≤(f.blocks.length:Int)∧(f.blocks.length:Int)≤(f.blocks.length:Int)∧(f.blocks.length:Int)≤1099511627776∧(f.blocks.length:Int)*((24:Nat):Int)≤1099511627776:=by omega
  simp (disch:=first|omega|assumption|(rw [dT];omega)|(rw [dF];omega)) only [↓iP,↓iN,iT,iF,wrap_up,tN,Nat.zero_add,c1,and_self]
  rfl
 have:=Goes.upto (C:=C152) (U:=U152) (Rt:=R152 f) (k:=k152_l0) (fun b=>s152_l0 f b [f] ((List.range b).foldl (prevB f) (List.replicate f.blocks.length []))) f.blocks.length (fun b hb=>by
  rw [List.range_succ,List.foldl_append,List.foldl_cons,List.foldl_nil]
  exact Prev.step h hb (prevN_in h (by omega))) _ (Nat.le_refl _)
 refine this.ends (Goes.ends (k':=k152_j0) (s':=s152_j0 f (prevL f)) (.step fun J=> ?_) (.step fun J=>e152_j0 ..))
 rw [e152_l0]
 simp only [List.getD_cons_zero,Int.toNat_natCast]
 simp (disch:=first|omega|assumption|(rw [dT];omega)|(rw [dF];omega)) only [↓iP,↓iN,iT,iF,wrap_up,tN,Nat.zero_add]
 rfl
end
noncomputable def S152:List (AV Ty)→T (AV Ty×List (AV Ty))
 |[.agg x]=>match cod33.dec false x with
  |some f=> .ite (okF f) (okF.dec f) (.ret (.sl false 30 (prevL f),[.dead])) .fail
  |none=> .fail
 |_=> .fail
theorem S152_ok (l:List (AV Ty)) (r:AV Ty) (outs:List (AV Ty)) (h:(S152 l).val=some (r,outs)):CallOk tb Try.prog 152 l r outs:=by
 unfold S152 at h
 split at h
 ·rename_i x
  split at h
  ·rename_i f e1
   rcases ite_val h with ⟨e,h⟩|⟨_,h⟩
   ·cases h
    have h1:=cod33_ok.dec false x f e1
    subst h1
    exact prev_ok f e
   ·cases h
  ·cases h
 ·cases h
def cntT:List Bool→Nat
 |[]=>0
 |true :: l=>cntT l+1
 |false :: l=>cntT l
theorem cntT_le: ∀l:List Bool,cntT l≤l.length
 |[]=>Nat.le_refl _
 |true :: l=>Nat.succ_le_succ (cntT_le l)
 |false :: l=>Nat.le_succ_of_le (cntT_le l)
theorem cntT_set: ∀ {l:List Bool} {i:Nat},i<l.length→l.getD i false=false→cntT (l.set i true)=cntT l+1
 |[],i,h,_=>absurd h (Nat.not_lt_zero _)
 |b :: l,0,_,e=>by
  have e:b=false:=by simpa using e
  subst e
  rfl
 |b :: l,i+1,h,e=>by
  have:=cntT_set (l:=l) (i:=i) (by simpa using h) (by simpa using e)
  cases b
  ·simpa [cntT] using this
  ·simp only [List.set_cons_succ,cntT,this]
noncomputable def b169:Code:=bodyOf Try.f169
noncomputable def C169:Cfg Ty:=⟨fun
 |170=>some ([],S170)
 |_=>none,fun _=>false,77,0⟩
def U169:Cuts:=⟨fun
 |0=>some [(7,none)]
 |1=>some [(2,none),(3,none),(7,none),(8,none)]
 |2=>some [(2,none),(3,none),(7,none),(8,none)]
 |3=>some [(2,none),(3,none),(7,none),(8,none),(9,none)]
 |4=>some [(2,none),(3,none),(7,none),(8,none),(9,none)]
 |_=>none,fun
 |0=>some [(2,none),(3,none),(7,none),(8,none)]
 |2=>some [(2,none),(3,none),(7,none),(8,none),(9,none)]
 |4=>some [(2,none),(3,none),(7,none),(8,none),(9,none),(10,none),(11,none)]
 |_=>none,fun _=>none⟩
noncomputable def k169_j0:List Item:=[.code (sndC (sndC (sndC (sndC (sndC b169)))))]
noncomputable def k169_l0:List Item:=[.code (inC (inC (sndC (fstC (sndC (sndC (sndC (sndC b169)))))))), .inLoop (inC (inC (sndC (fstC (sndC (sndC (sndC (sndC b169)))))))), .inBlock 0, .code (sndC (sndC (sndC (sndC (sndC b169)))))]
noncomputable def k169_j1:List Item:=[.inLoop (inC (inC (sndC (fstC (sndC (sndC (sndC (sndC b169)))))))), .inBlock 0, .code (sndC (sndC (sndC (sndC (sndC b169)))))]
noncomputable def k169_j2:List Item:=[.inBlock 1, .inLoop (inC (inC (sndC (fstC (sndC (sndC (sndC (sndC b169)))))))), .inBlock 0, .code (sndC (sndC (sndC (sndC (sndC b169)))))]
noncomputable def k169_l2:List Item:=[.code (inC (inC (sndC (sndC (inC (sndC (inC (inC (sndC (fstC (sndC (sndC (sndC (sndC b169)))))))))))))), .inLoop (inC (inC (sndC (sndC (inC (sndC (inC (inC (sndC (fstC (sndC (sndC (sndC (sndC b169)))))))))))))), .inBlock 2, .inBlock 1, .inLoop (inC (inC (sndC (fstC (sndC (sndC (sndC (sndC b169)))))))), .inBlock 0, .code (sndC (sndC (sndC (sndC (sndC b169)))))]
noncomputable def k169_j3:List Item:=[.code (sndC (sndC (inC (inC (sndC (sndC (inC (sndC (inC (inC (sndC (fstC (sndC (sndC (sndC (sndC b169)))))))))))))))), .inLoop (inC (inC (sndC (sndC (inC (sndC (inC (inC (sndC (fstC (sndC (sndC (sndC (sndC b169)))))))))))))), .inBlock 2, .inBlock 1, .inLoop (inC (inC (sndC (fstC (sndC (sndC (sndC (sndC b169)))))))), .inBlock 0, .code (sndC (sndC (sndC (sndC (sndC b169)))))]
noncomputable def k169_j4:List Item:=[.inBlock 3, .code (sndC (sndC (inC (inC (sndC (sndC (inC (sndC (inC (inC (sndC (fstC (sndC (sndC (sndC (sndC b169)))))))))))))))), .inLoop (inC (inC (sndC (sndC (inC (sndC (inC (inC (sndC (fstC (sndC (sndC (sndC (sndC b169)))))))))))))), .inBlock 2, .inBlock 1, .inLoop (inC (inC (sndC (fstC (sndC (sndC (sndC (sndC b169)))))))), .inBlock 0, .code (sndC (sndC (sndC (sndC (sndC b169)))))]
noncomputable def k169_l4:List Item:=[.code (inC (inC (sndC (sndC (sndC (inC (fstC (sndC (inC (inC (sndC (sndC (inC (sndC (inC (inC (sndC (fstC (sndC (sndC (sndC (sndC b169)))))))))))))))))))))), .inLoop (inC (inC (sndC (sndC (sndC (inC (fstC (sndC (inC (inC (sndC (sndC (inC (sndC (inC (inC (sndC (fstC (sndC (sndC (sndC (sndC b169)))))))))))))))))))))), .inBlock 4, .inBlock 3, .code (sndC (sndC (inC (inC (sndC (sndC (inC (sndC (inC (inC (sndC (fstC (sndC (sndC (sndC (sndC b169)))))))))))))))), .inLoop (inC (inC (sndC (sndC (inC (sndC (inC (inC (sndC (fstC (sndC (sndC (sndC (sndC b169)))))))))))))), .inBlock 2, .inBlock 1, .inLoop (inC (inC (sndC (fstC (sndC (sndC (sndC (sndC b169)))))))), .inBlock 0, .code (sndC (sndC (sndC (sndC (sndC b169)))))]
def a169 (f:Func) (b:Int) (c:Int):List (AV Ty):=[.agg [.v (.string f.name), .v (.bool f.out), .sl false (3:Nat) f.params, .v (.int .i64 f.result), .sl false (44:Nat) f.blocks], .v (.int .i64 b), .v (.int .i64 c)]
noncomputable def R169 (f:Func) (b:Int) (c:Int):St Ty→EvR:=resT tb C169 Try.f169.results.toList (.fro 4) (a169 f b c)
def s169_l0 (f:Func) (b:Int) (c:Int) (v8:Bool) (h0:List Func) (h1:List Bool):St Ty:=St.mk [(2, .v (.int .i64 c)),(3, .ptr (0) [] (0) (0)),(7, .ref (1) [] none false),(8, .v (.bool v8))] [some (Root.mk (33) false h0),some (Root.mk (4) false h1)]
def s169_l2 (f:Func) (b:Int) (c:Int) (v8:Bool) (v9:Int) (h0:List Func) (h1:List Bool):St Ty:=St.mk [(2, .v (.int .i64 c)),(3, .ptr (0) [] (0) (0)),(7, .ref (1) [] none false),(8, .v (.bool v8)),(9, .v (.int .i64 v9))] [some (Root.mk (33) false h0),some (Root.mk (4) false h1)]
def s169_j0 (f:Func) (b:Int) (c:Int) (h0:List Bool):St Ty:=St.mk [(7, .ref (0) [] none false)] [some (Root.mk (4) false h0)]
def s169_j3 (f:Func) (b:Int) (c:Int) (v8:Bool) (v9:Int) (h0:List Func) (h1:List Bool):St Ty:=St.mk [(2, .v (.int .i64 c)),(3, .ptr (0) [] (0) (0)),(7, .ref (1) [] none false),(8, .v (.bool v8)),(9, .v (.int .i64 v9))] [some (Root.mk (33) false h0),some (Root.mk (4) false h1)]
def s169_l4 (f:Func) (b:Int) (c:Int) (v8:Bool) (v9:Int) (v10:List Int) (v11:Int) (h0:List Func) (h1:List Bool):St Ty:=St.mk [(2, .v (.int .i64 c)),(3, .ptr (0) [] (0) (0)),(7, .ref (1) [] none false),(8, .v (.bool v8)),(9, .v (.int .i64 v9)),(10, .sl false (3) v10),(11, .v (.int .i64 v11))] [some (Root.mk (33) false h0),some (Root.mk (4) false h1)]
def s169_j2 (f:Func) (b:Int) (c:Int) (v8:Bool) (h0:List Func) (h1:List Bool):St Ty:=St.mk [(2, .v (.int .i64 c)),(3, .ptr (0) [] (0) (0)),(7, .ref (1) [] none false),(8, .v (.bool v8))] [some (Root.mk (33) false h0),some (Root.mk (4) false h1)]
def s169_j4 (f:Func) (b:Int) (c:Int) (v8:Bool) (v9:Int) (h0:List Func) (h1:List Bool):St Ty:=St.mk [(2, .v (.int .i64 c)),(3, .ptr (0) [] (0) (0)),(7, .ref (1) [] none false),(8, .v (.bool v8)),(9, .v (.int .i64 v9))] [some (Root.mk (33) false h0),some (Root.mk (4) false h1)]
def s169_j1 (f:Func) (b:Int) (c:Int) (v8:Bool) (h0:List Func) (h1:List Bool):St Ty:=St.mk [(2, .v (.int .i64 c)),(3, .ptr (0) [] (0) (0)),(7, .ref (1) [] none false),(8, .v (.bool v8))] [some (Root.mk (33) false h0),some (Root.mk (4) false h1)]
theorem e169 (J f b c):run tb C169 U169 J (R169 f b c) 4096 [.code b169] ⟨slotsA (a169 f b c) 0 0,heapA (a169 f b c)⟩=
 if 0≤(↑f.blocks.length:Int)∧(↑f.blocks.length:Int)≤(↑f.blocks.length:Int)∧(↑f.blocks.length:Int)≤1099511627776∧(↑f.blocks.length:Int)*(↑1:Int)≤1099511627776 then
 if decide (b<0)=false then
 if decide (b≥(↑(List.replicate (↑f.blocks.length:Int).toNat false).length:Int))=false then
 if (b == c)=true then
 some (.sl false 4 (List.replicate (↑f.blocks.length:Int).toNat false),[.dead, .dead, .dead])
 else
 if 0≤b then
 if b<(↑(List.replicate (↑f.blocks.length:Int).toNat false).length:Int) then
 J k169_l0 (s169_l0 f b c true ([Func.mk f.name f.out f.params f.result f.blocks]) ((List.replicate (↑f.blocks.length:Int).toNat false).set (0+b.toNat) true))
 else none
 else none
 else
 some (.sl false 4 (List.replicate (↑f.blocks.length:Int).toNat false),[.dead, .dead, .dead])
 else
 some (.sl false 4 (List.replicate (↑f.blocks.length:Int).toNat false),[.dead, .dead, .dead])
 else none:=by kernel_rfl
theorem e169_l0 (J f b c v8 h0 h1):run tb C169 U169 J (R169 f b c) 4096 k169_l0 (s169_l0 f b c v8 h0 h1)=
 if v8=true then
 J k169_l2 (s169_l2 f b c false 0 h0 h1)
 else
 J k169_j0 (s169_j0 f b c h1):=by kernel_rfl
theorem e169_l2 (J f b c v8 v9 h0 h1):run tb C169 U169 J (R169 f b c) 4096 k169_l2 (s169_l2 f b c v8 v9 h0 h1)=
 if decide (v9<(↑h1.length:Int))=true then
 if 0≤v9 then
 if v9<(↑h1.length:Int) then
 if (!h1.getD (0+v9.toNat) false)=true then
 J k169_j3 (s169_j3 f b c v8 v9 h0 h1)
 else
 if okF (Func.mk (h0.getD (0) (Func.mk ByteArray.empty false [] 0 [])).name (h0.getD (0) (Func.mk ByteArray.empty false [] 0 [])).out (h0.getD (0) (Func.mk ByteArray.empty false [] 0 [])).params (h0.getD (0) (Func.mk ByteArray.empty false [] 0 [])).result (h0.getD (0) (Func.mk ByteArray.empty false [] 0 [])).blocks) then
 J k169_l4 (s169_l4 f b c v8 v9 (nextL (Func.mk (h0.getD (0) (Func.mk ByteArray.empty false [] 0 [])).name (h0.getD (0) (Func.mk ByteArray.empty false [] 0 [])).out (h0.getD (0) (Func.mk ByteArray.empty false [] 0 [])).params (h0.getD (0) (Func.mk ByteArray.empty false [] 0 [])).result (h0.getD (0) (Func.mk ByteArray.empty false [] 0 [])).blocks) v9) 0 h0 h1)
 else none
 else none
 else none
 else
 J k169_j2 (s169_j2 f b c v8 h0 h1):=by kernel_rfl
theorem e169_j0 (J f b c h0):run tb C169 U169 J (R169 f b c) 4096 k169_j0 (s169_j0 f b c h0)=
 some (.sl false (4) h0,[.dead, .dead, .dead]):=by kernel_rfl
theorem e169_j3 (J f b c v8 v9 h0 h1):run tb C169 U169 J (R169 f b c) 4096 k169_j3 (s169_j3 f b c v8 v9 h0 h1)=
 J k169_l2 (s169_l2 f b c v8 (IntKind.i64.wrap (v9+1)) h0 h1):=by kernel_rfl
theorem e169_l4 (J f b c v8 v9 v10 v11 h0 h1):run tb C169 U169 J (R169 f b c) 4096 k169_l4 (s169_l4 f b c v8 v9 v10 v11 h0 h1)=
 if decide (v11<(↑v10.length:Int))=true then
 if 0≤v11 then
 if v11<(↑v10.length:Int) then
 if (v10.getD v11.toNat 0 != c)=true then
 if 0≤v11 then
 if v11<(↑v10.length:Int) then
 if 0≤v10.getD v11.toNat 0 then
 if v10.getD v11.toNat 0<(↑h1.length:Int) then
 if (!h1.getD (0+Int.toNat (v10.getD v11.toNat 0)) false)=true then
 if 0≤v11 then
 if v11<(↑v10.length:Int) then
 if 0≤v10.getD v11.toNat 0 then
 if v10.getD v11.toNat 0<(↑h1.length:Int) then
 J k169_l4 (s169_l4 f b c true v9 v10 (IntKind.i64.wrap (v11+1)) h0 (h1.set (0+Int.toNat (v10.getD v11.toNat 0)) true))
 else none
 else none
 else none
 else none
 else
 J k169_l4 (s169_l4 f b c v8 v9 v10 (IntKind.i64.wrap (v11+1)) h0 h1)
 else none
 else none
 else none
 else none
 else
 J k169_l4 (s169_l4 f b c v8 v9 v10 (IntKind.i64.wrap (v11+1)) h0 h1)
 else none
 else none
 else
 J k169_j4 (s169_j4 f b c v8 v9 h0 h1):=by kernel_rfl
theorem e169_j2 (J f b c v8 h0 h1):run tb C169 U169 J (R169 f b c) 4096 k169_j2 (s169_j2 f b c v8 h0 h1)=
 J k169_j1 (s169_j1 f b c v8 h0 h1):=by kernel_rfl
theorem e169_j4 (J f b c v8 v9 h0 h1):run tb C169 U169 J (R169 f b c) 4096 k169_j4 (s169_j4 f b c v8 v9 h0 h1)=
 J k169_j3 (s169_j3 f b c v8 v9 h0 h1):=by kernel_rfl
theorem e169_j1 (J f b c v8 h0 h1):run tb C169 U169 J (R169 f b c) 4096 k169_j1 (s169_j1 f b c v8 h0 h1)=
 J k169_l0 (s169_l0 f b c v8 h0 h1):=by kernel_rfl

theorem in169:Entered 169:=⟨Try.f169,b169,by kernel_rfl,by kernel_rfl,by kernel_rfl⟩
theorem fn169 (f:Ev.Func) (b c:Int) {res:AV Ty} {outs:List (AV Ty)} (h:Ends C169 U169 (R169 f b c) [.code b169] ⟨slotsA (a169 f b c) 0 0,heapA (a169 f b c)⟩ (some (res,outs))):CallOk tb Try.prog 169 (a169 f b c) res outs:=by
 obtain ⟨n0,hn⟩:=h
 exact fn_ok (C:=C169) (U:=U169) (n:=0+n0) (q:=(.fro 4)) tbOk good (fun f mu S h=>by
  unfold C169 at h
  simp only at h
  split at h
  ·cases h;exact ⟨in170,S170_ok⟩
  ·cases h) mixed (fn:=Try.f169) (body:=b169) (by kernel_rfl) (by kernel_rfl) rfl rfl (by show 3≤77;omega) (hn 0)
section
variable {f:Ev.Func} {b c:Int}
def FromP (N q:Nat) (G:Bool×List Bool):Prop:=G.2.length=N∧q≤cntT G.2∧(G.1=true→q<cntT G.2)
theorem From.in (hf:okF f) {q a i:Nat} (hi:i<(nextL f a).length) {G:Bool×List Bool} (hG:FromP f.blocks.length q G): ∃G',FromP f.blocks.length q G'∧Goes C169 U169 (R169 f b c) k169_l4 (s169_l4 f b c G.1 a (nextL f a) i [f] G.2) k169_l4 (s169_l4 f b c G'.1 a (nextL f a) (i+1:Nat) [f] G'.2):=by
 have hl:=nextL_len hf a
 have w:IntKind.i64.wrap ((i:Int)+1)=((i+1:Nat):Int):=wrap_nat (by omega) (by omega)
 obtain ⟨n1,n2⟩:=nextL_in (getD_mem (d:=0) hi)
 obtain ⟨g1,g2,g3⟩:=hG
 by_cases h1:(nextL f a).getD i 0=c
 ·refine ⟨G,⟨g1,g2,g3⟩, .step fun J=> ?_⟩
  have h2:((nextL f a).getD i 0 != c)=false:=by rw [h1];simp
  rw [e169_l4]
  simp only [Int.toNat_natCast,w,Nat.zero_add,h2]
  simp (disch:=first|omega|assumption|(rw [dT];omega)|(rw [dF];omega)) only [↓iP,↓iN,iT,iF,wrap_up,tN,Nat.zero_add,Bool.false_eq_true]
 ·have h2:((nextL f a).getD i 0 != c)=true:=bne_iff_ne.2 h1
  cases h3:G.2.getD ((nextL f a).getD i 0).toNat false with
  |true=>
   refine ⟨G,⟨g1,g2,g3⟩, .step fun J=> ?_⟩
   rw [e169_l4]
   simp only [Int.toNat_natCast,w,Nat.zero_add,h2,h3]
   simp (disch:=first|omega|assumption|(rw [dT];omega)|(rw [dF];omega)) only [↓iP,↓iN,iT,iF,wrap_up,tN,Nat.zero_add,Bool.not_true,Bool.false_eq_true]
  |false=>
   have hc:=cntT_set (by omega) h3
   refine ⟨(true,G.2.set ((nextL f a).getD i 0).toNat true),⟨by simpa using g1,by simp only;omega,fun _=>by simp only;omega⟩, .step fun J=> ?_⟩
   rw [e169_l4]
   simp only [Int.toNat_natCast,w,Nat.zero_add,h2,h3]
   simp (disch:=first|omega|assumption|(rw [dT];omega)|(rw [dF];omega)) only [↓iP,↓iN,iT,iF,wrap_up,tN,Nat.zero_add,Bool.not_false]
theorem From.block (hf:okF f) {q a:Nat} (ha:a<f.blocks.length) {G:Bool×List Bool} (hG:FromP f.blocks.length q G): ∃G',FromP f.blocks.length q G'∧Goes C169 U169 (R169 f b c) k169_l2 (s169_l2 f b c G.1 a [f] G.2) k169_l2 (s169_l2 f b c G'.1 (a+1:Nat) [f] G'.2):=by
 have h0:=hf.2.1
 have hl:=hG.1
 have w:IntKind.i64.wrap ((a:Int)+1)=((a+1:Nat):Int):=wrap_nat (by omega) (by omega)
 have e0:(Func.mk f.name f.out f.params f.result f.blocks)=f:=rfl
 have back: ∀G':Bool×List Bool,Goes C169 U169 (R169 f b c) k169_j3 (s169_j3 f b c G'.1 a [f] G'.2) k169_l2 (s169_l2 f b c G'.1 (a+1:Nat) [f] G'.2):=fun G'=> .step fun J=>by
  rw [e169_j3,w]
 cases h1:G.2.getD a false with
 |false=>
  refine ⟨G,hG, .trans (.step fun J=> ?_) (back G)⟩
  rw [e169_l2]
  simp only [Int.toNat_natCast,Nat.zero_add,h1]
  simp (disch:=first|omega|assumption|(rw [dT];omega)|(rw [dF];omega)) only [↓iP,↓iN,iT,iF,wrap_up,tN,Nat.zero_add,Bool.not_false]
 |true=>
  obtain ⟨G',g1,g2⟩:=Goes.shape (C:=C169) (U:=U169) (Rt:=R169 f b c) (k:=k169_l4) (fun (i:Nat) (G:Bool×List Bool)=>s169_l4 f b c G.1 a (nextL f a) i [f] G.2) (nextL f a).length (FromP f.blocks.length q) (fun i G hi hP=>From.in hf hi hP) (nextL f a).length 0 G (by omega) hG
  refine ⟨G',g1,Goes.trans (k':=k169_l4) (s':=s169_l4 f b c G.1 a (nextL f a) (0:Nat) [f] G.2) (.step fun J=> ?_) (g2.trans (.trans (k':=k169_j4) (s':=s169_j4 f b c G'.1 a [f] G'.2) (.step fun J=> ?_) (.trans (.step fun J=>e169_j4 ..) (back G'))))⟩
  ·rw [e169_l2]
   simp only [Int.toNat_natCast,Nat.zero_add,h1,List.getD_cons_zero]
   rw [e0]
   simp (disch:=first|omega|assumption|(rw [dT];omega)|(rw [dF];omega)) only [↓iP,↓iN,iT,iF,wrap_up,tN,Nat.zero_add,hf,Bool.not_true,Bool.false_eq_true]
   rfl
  ·rw [e169_l4]
   simp only [Int.toNat_natCast,Nat.zero_add]
   simp (disch:=first|omega|assumption|(rw [dT];omega)|(rw [dF];omega)) only [↓iP,↓iN,iT,iF,wrap_up,tN,Nat.zero_add]
theorem From.pass (hf:okF f) {h1:List Bool} (hl:h1.length=f.blocks.length): ∃G',FromP f.blocks.length (cntT h1) G'∧Goes C169 U169 (R169 f b c) k169_l0 (s169_l0 f b c true [f] h1) k169_l0 (s169_l0 f b c G'.1 [f] G'.2):=by
 obtain ⟨G',g1,g2⟩:=Goes.shape (C:=C169) (U:=U169) (Rt:=R169 f b c) (k:=k169_l2) (fun (i:Nat) (G:Bool×List Bool)=>s169_l2 f b c G.1 i [f] G.2) f.blocks.length (FromP f.blocks.length (cntT h1)) (fun i G hi hP=>From.block hf hi hP) f.blocks.length 0 (false,h1) (by omega) ⟨hl,Nat.le_refl _,fun e=>by cases e⟩
 refine ⟨G',g1,Goes.trans (k':=k169_l2) (s':=s169_l2 f b c false (0:Nat) [f] h1) (.step fun J=> ?_) (g2.trans (.trans (k':=k169_j2) (s':=s169_j2 f b c G'.1 [f] G'.2) (.step fun J=> ?_) (.trans (.step fun J=>e169_j2 ..) (.step fun J=>e169_j1 ..))))⟩
 ·rw [e169_l0]
  simp (disch:=first|omega|assumption|(rw [dT];omega)|(rw [dF];omega)) only [↓iP,↓iN,iT,iF,wrap_up,tN,Nat.zero_add]
  rfl
 ·have:=g1.1
  rw [e169_l2]
  simp only [Int.toNat_natCast,Nat.zero_add]
  simp (disch:=first|omega|assumption|(rw [dT];omega)|(rw [dF];omega)) only [↓iP,↓iN,iT,iF,wrap_up,tN,Nat.zero_add]
theorem from_ex (f:Ev.Func) (b c:Int) (hf:okF f): ∃l:List Bool,l.length=f.blocks.length∧CallOk tb Try.prog 169 (a169 f b c) (.sl false 4 l) [.dead, .dead, .dead]:=by
 have h0:=hf.2.1
 have c1:0≤(f.blocks.length:Int)∧(f.blocks.length:Int)≤(f.blocks.length:Int)∧(f.blocks.length:Int)≤1099511627776∧(f.blocks.length:Int)*((1:Nat):Int)≤1099511627776:=by omega
 have hrep:(List.replicate f.blocks.length false).length=f.blocks.length:=List.length_replicate
 by_cases h1:0≤b∧b<f.blocks.length∧b≠c
 ·obtain ⟨h1,h2,h3⟩:=h1
  have h4:(b == c)=false:=beq_eq_false_iff_ne.2 h3
  obtain ⟨y,y1,y2,y3⟩:=Goes.loop (C:=C169) (U:=U169) (Rt:=R169 f b c) (k:=k169_l0) (fun x:Bool×List Bool=>s169_l0 f b c x.1 [f] x.2) (fun x=>x.2.length=f.blocks.length) (fun x=>x.1=false) (fun x=>match x.1 with
   |true=>f.blocks.length-cntT x.2+1
   |false=>0) (fun x hx hfin=>by
    obtain ⟨x1,x2⟩:=x
    have hx1:x1=true:=by cases x1<;>simp_all
    subst hx1
    obtain ⟨G,g1,g2⟩:=From.pass (b:=b) (c:=c) (h1:=x2) hf hx
    refine ⟨G,g1.1,?_,g2⟩
    have hc:=cntT_le G.2
    rw [g1.1] at hc
    cases hG:G.1 with
    |true=>
     have:=g1.2.2 hG
     simp only
     omega
    |false=>
     simp only
     omega) _ (true,(List.replicate f.blocks.length false).set b.toNat true) (Nat.lt_succ_self _) (by simp)
  refine ⟨y.2,y1,fn169 f b c (Goes.ends (.step fun J=> ?_) (y3.ends (Goes.ends (k':=k169_j0) (s':=s169_j0 f b c y.2) (.step fun J=> ?_) (.step fun J=>e169_j0 ..))))⟩
  ·rw [e169]
   simp only [Int.toNat_natCast,Nat.zero_add,hrep,h4]
   simp (disch:=first|omega|assumption|(rw [dT];omega)|(rw [dF];omega)) only [↓iP,↓iN,iT,iF,wrap_up,tN,Nat.zero_add,c1,and_self,Bool.false_eq_true]
  ·have y2:y.1=false:=y2
   simp only [y2]
   rw [e169_l0]
   simp (disch:=first|omega|assumption|(rw [dT];omega)|(rw [dF];omega)) only [↓iP,↓iN,iT,iF,wrap_up,tN,Nat.zero_add,Bool.false_eq_true]
 ·refine ⟨List.replicate f.blocks.length false,hrep,fn169 f b c (.step fun J=> ?_)⟩
  rw [e169]
  simp only [Int.toNat_natCast,Nat.zero_add,hrep]
  by_cases h2:b<0
  ·simp (disch:=first|omega|assumption|(rw [dT];omega)|(rw [dF];omega)) only [↓iP,↓iN,iT,iF,wrap_up,tN,Nat.zero_add,c1,and_self]
   rfl
  ·by_cases h3:b≥f.blocks.length
   ·simp (disch:=first|omega|assumption|(rw [dT];omega)|(rw [dF];omega)) only [↓iP,↓iN,iT,iF,wrap_up,tN,Nat.zero_add,c1,and_self]
    rfl
   ·have h4:(b == c)=true:=beq_iff_eq.2 (Classical.byContradiction fun e=>h1 ⟨by omega,by omega,e⟩)
    simp only [h4]
    simp (disch:=first|omega|assumption|(rw [dT];omega)|(rw [dF];omega)) only [↓iP,↓iN,iT,iF,wrap_up,tN,Nat.zero_add,c1,and_self]
    rfl
end
noncomputable def fromL (f:Ev.Func) (b c:Int):List Bool:=if h:okF f then Classical.choose (from_ex f b c h) else []
theorem fromL_ok {f:Ev.Func} (h:okF f) (b c:Int):(fromL f b c).length=f.blocks.length∧CallOk tb Try.prog 169 (a169 f b c) (.sl false 4 (fromL f b c)) [.dead, .dead, .dead]:=by
 unfold fromL
 rw [dif_pos h]
 exact Classical.choose_spec (from_ex f b c h)
noncomputable def S169:List (AV Ty)→T (AV Ty×List (AV Ty))
 |[.agg x, .v (.int .i64 b), .v (.int .i64 c)]=>match cod33.dec false x with
  |some f=> .ite (okF f) (okF.dec f) (.ret (.sl false 4 (fromL f b c),[.dead, .dead, .dead])) .fail
  |none=> .fail
 |_=> .fail
theorem S169_ok (l:List (AV Ty)) (r:AV Ty) (outs:List (AV Ty)) (h:(S169 l).val=some (r,outs)):CallOk tb Try.prog 169 l r outs:=by
 unfold S169 at h
 split at h
 ·rename_i x b c
  split at h
  ·rename_i f e1
   rcases ite_val h with ⟨e,h⟩|⟨_,h⟩
   ·cases h
    have h1:=cod33_ok.dec false x f e1
    subst h1
    exact (fromL_ok e b c).2
   ·cases h
  ·cases h
 ·cases h
end Go.Proofs.Ytggibjbcbicpjaa.Ev
