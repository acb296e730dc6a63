/- The evaluator, what it gives of the functions that are called, and the plain law: part 6 of 6. -/
import Derived.Test.YtggibjbcbicpjaaTue
namespace Go.Proofs.Ytggibjbcbicpjaa.Ev
open Go
set_option linter.unusedVariables false
set_option linter.unusedSimpArgs false
noncomputable def b124:Code:=bodyOf Try.f124
noncomputable def C124:Cfg Ty:=⟨fun
 |28=>some ([],S28)
 |_=>none,fun _=>false,120,0⟩
def U124:Cuts:=⟨fun
 |0=>some [(1,none)]
 |2=>some [(1,none)]
 |4=>some [(1,none)]
 |6=>some []
 |_=>none,fun
 |0=>some [(1,none),(3,none)]
 |2=>some [(1,none),(4,none)]
 |4=>some [(1,none),(6,none)]
 |6=>some [(1,none),(8,none)]
 |_=>none,fun _=>none⟩
noncomputable def k124_j0:List Item:=[.code (sndC (sndC (sndC b124)))]
noncomputable def k124_l0:List Item:=[.code (inC (inC (sndC (fstC (sndC (sndC b124)))))), .inLoop (inC (inC (sndC (fstC (sndC (sndC b124)))))), .inBlock 0, .code (sndC (sndC (sndC b124)))]
noncomputable def k124_j2:List Item:=[.code (sndC (sndC (sndC (sndC b124))))]
noncomputable def k124_l2:List Item:=[.code (inC (inC (sndC (fstC (sndC (sndC (sndC b124))))))), .inLoop (inC (inC (sndC (fstC (sndC (sndC (sndC b124))))))), .inBlock 2, .code (sndC (sndC (sndC (sndC b124))))]
noncomputable def k124_j4:List Item:=[.code (sndC (sndC (sndC (sndC (sndC b124)))))]
noncomputable def k124_l4:List Item:=[.code (inC (inC (sndC (fstC (sndC (sndC (sndC (sndC b124)))))))), .inLoop (inC (inC (sndC (fstC (sndC (sndC (sndC (sndC b124)))))))), .inBlock 4, .code (sndC (sndC (sndC (sndC (sndC b124)))))]
noncomputable def k124_j6:List Item:=[.code (sndC (sndC (sndC (sndC (sndC (sndC b124))))))]
noncomputable def k124_l6:List Item:=[.code (inC (inC (sndC (fstC (sndC (sndC (sndC (sndC (sndC b124))))))))), .inLoop (inC (inC (sndC (fstC (sndC (sndC (sndC (sndC (sndC b124))))))))), .inBlock 6, .code (sndC (sndC (sndC (sndC (sndC (sndC b124))))))]
def a124 (m:Module):List (AV Ty):=[.agg [.sl false (91:Nat) m.externs, .sl false (94:Nat) m.globals, .sl false (96:Nat) m.tables, .sl false (33:Nat) m.funcs]]
noncomputable def R124 (m:Module):St Ty→EvR:=resT tb C124 Try.f124.results.toList .keep (a124 m)
def s124_l0 (m:Module) (v3:Int) (h0:List Module):St Ty:=St.mk [(1, .ptr (0) [] (0) (0)),(3, .v (.int .i64 v3))] [some (Root.mk (27) false h0)]
def s124_j0 (m:Module) (h0:List Module):St Ty:=St.mk [(1, .ptr (0) [] (0) (0))] [some (Root.mk (27) false h0)]
def s124_l2 (m:Module) (v4:Int) (h0:List Module):St Ty:=St.mk [(1, .ptr (0) [] (0) (0)),(4, .v (.int .i64 v4))] [some (Root.mk (27) false h0)]
def s124_j2 (m:Module) (h0:List Module):St Ty:=St.mk [(1, .ptr (0) [] (0) (0))] [some (Root.mk (27) false h0)]
def s124_l4 (m:Module) (v6:Int) (h0:List Module):St Ty:=St.mk [(1, .ptr (0) [] (0) (0)),(6, .v (.int .i64 v6))] [some (Root.mk (27) false h0)]
def s124_j4 (m:Module) (h0:List Module):St Ty:=St.mk [(1, .ptr (0) [] (0) (0))] [some (Root.mk (27) false h0)]
def s124_l6 (m:Module) (v8:Int) (h0:List Module):St Ty:=St.mk [(1, .ptr (0) [] (0) (0)),(8, .v (.int .i64 v8))] [some (Root.mk (27) false h0)]
def s124_j6 (m:Module):St Ty:=St.mk [] []
theorem e124 (J m):run tb C124 U124 J (R124 m) 4096 [.code b124] ⟨slotsA (a124 m) 0 0,heapA (a124 m)⟩=
 if decide ((↑m.funcs.length:Int)>24)=false then
 if decide ((↑m.externs.length:Int)>12)=false then
 if decide ((↑m.globals.length:Int)>12)=false then
 if decide ((↑m.tables.length:Int)>6)=true then
 some (.v (.bool false),[.dead])
 else
 J k124_l0 (s124_l0 m 0 ([Module.mk m.externs m.globals m.tables m.funcs]))
 else
 some (.v (.bool false),[.dead])
 else
 some (.v (.bool false),[.dead])
 else
 some (.v (.bool false),[.dead]):=by kernel_rfl
theorem e124_l0 (J m v3 h0):run tb C124 U124 J (R124 m) 4096 k124_l0 (s124_l0 m v3 h0)=
 if decide (v3<(↑(h0.getD (0) (Module.mk [] [] [] [])).externs.length:Int))=true then
 if 0≤v3 then
 if v3<(↑(h0.getD (0) (Module.mk [] [] [] [])).externs.length:Int) then
 if decide ((↑((h0.getD (0) (Module.mk [] [] [] [])).externs.getD v3.toNat (Extern.mk ByteArray.empty [] 0)).params.length:Int)>5)=true then
 some (.v (.bool false),[.dead])
 else
 J k124_l0 (s124_l0 m (IntKind.i64.wrap (v3+1)) h0)
 else none
 else none
 else
 J k124_j0 (s124_j0 m h0):=by kernel_rfl
theorem e124_j0 (J m h0):run tb C124 U124 J (R124 m) 4096 k124_j0 (s124_j0 m h0)=
 J k124_l2 (s124_l2 m 0 h0):=by kernel_rfl
theorem e124_l2 (J m v4 h0):run tb C124 U124 J (R124 m) 4096 k124_l2 (s124_l2 m v4 h0)=
 if decide (v4<(↑(h0.getD (0) (Module.mk [] [] [] [])).globals.length:Int))=true then
 if 0≤v4 then
 if v4<(↑(h0.getD (0) (Module.mk [] [] [] [])).globals.length:Int) then
 if decide ((↑((h0.getD (0) (Module.mk [] [] [] [])).globals.getD v4.toNat (Global.mk ByteArray.empty [])).cells.length:Int)<1)=false then
 if decide ((↑((h0.getD (0) (Module.mk [] [] [] [])).globals.getD v4.toNat (Global.mk ByteArray.empty [])).cells.length:Int)>16)=true then
 some (.v (.bool false),[.dead])
 else
 J k124_l2 (s124_l2 m (IntKind.i64.wrap (v4+1)) h0)
 else
 some (.v (.bool false),[.dead])
 else none
 else none
 else
 J k124_j2 (s124_j2 m h0):=by kernel_rfl
theorem e124_j2 (J m h0):run tb C124 U124 J (R124 m) 4096 k124_j2 (s124_j2 m h0)=
 J k124_l4 (s124_l4 m 0 h0):=by kernel_rfl
theorem e124_l4 (J m v6 h0):run tb C124 U124 J (R124 m) 4096 k124_l4 (s124_l4 m v6 h0)=
 if decide (v6<(↑(h0.getD (0) (Module.mk [] [] [] [])).tables.length:Int))=true then
 if 0≤v6 then
 if v6<(↑(h0.getD (0) (Module.mk [] [] [] [])).tables.length:Int) then
 if decide ((↑((h0.getD (0) (Module.mk [] [] [] [])).tables.getD v6.toNat (Table.mk ByteArray.empty [])).funcs.length:Int)<1)=false then
 if decide ((↑((h0.getD (0) (Module.mk [] [] [] [])).tables.getD v6.toNat (Table.mk ByteArray.empty [])).funcs.length:Int)>12)=true then
 some (.v (.bool false),[.dead])
 else
 J k124_l4 (s124_l4 m (IntKind.i64.wrap (v6+1)) h0)
 else
 some (.v (.bool false),[.dead])
 else none
 else none
 else
 J k124_j4 (s124_j4 m h0):=by kernel_rfl
theorem e124_j4 (J m h0):run tb C124 U124 J (R124 m) 4096 k124_j4 (s124_j4 m h0)=
 J k124_l6 (s124_l6 m 0 h0):=by kernel_rfl
theorem e124_l6 (J m v8 h0):run tb C124 U124 J (R124 m) 4096 k124_l6 (s124_l6 m v8 h0)=
 if decide (v8<(↑(h0.getD (0) (Module.mk [] [] [] [])).funcs.length:Int))=true then
 if 0≤v8 then
 if v8<(↑(h0.getD (0) (Module.mk [] [] [] [])).funcs.length:Int) then
 if decide ((↑((h0.getD (0) (Module.mk [] [] [] [])).funcs.getD v8.toNat (Func.mk ByteArray.empty false [] 0 [])).params.length:Int)>5)=false then
 if decide ((↑((h0.getD (0) (Module.mk [] [] [] [])).funcs.getD v8.toNat (Func.mk ByteArray.empty false [] 0 [])).blocks.length:Int)<1)=false then
 if decide ((↑((h0.getD (0) (Module.mk [] [] [] [])).funcs.getD v8.toNat (Func.mk ByteArray.empty false [] 0 [])).blocks.length:Int)>40)=false then
 if okF (Func.mk ((h0.getD (0) (Module.mk [] [] [] [])).funcs.getD v8.toNat (Func.mk ByteArray.empty false [] 0 [])).name ((h0.getD (0) (Module.mk [] [] [] [])).funcs.getD v8.toNat (Func.mk ByteArray.empty false [] 0 [])).out ((h0.getD (0) (Module.mk [] [] [] [])).funcs.getD v8.toNat (Func.mk ByteArray.empty false [] 0 [])).params ((h0.getD (0) (Module.mk [] [] [] [])).funcs.getD v8.toNat (Func.mk ByteArray.empty false [] 0 [])).result ((h0.getD (0) (Module.mk [] [] [] [])).funcs.getD v8.toNat (Func.mk ByteArray.empty false [] 0 [])).blocks) then
 if decide ((↑(szT ((h0.getD (0) (Module.mk [] [] [] [])).funcs.getD v8.toNat (Func.mk ByteArray.empty false [] 0 [])).blocks):Int)>300)=true then
 some (.v (.bool false),[.dead])
 else
 J k124_l6 (s124_l6 m (IntKind.i64.wrap (v8+1)) h0)
 else none
 else
 some (.v (.bool false),[.dead])
 else
 some (.v (.bool false),[.dead])
 else
 some (.v (.bool false),[.dead])
 else none
 else none
 else
 J k124_j6 (s124_j6 m):=by kernel_rfl
theorem e124_j6 (J m):run tb C124 U124 J (R124 m) 4096 k124_j6 (s124_j6 m)=
 some (.v (.bool true),[.dead]):=by kernel_rfl

theorem in124:Entered 124:=⟨Try.f124,b124,by kernel_rfl,by kernel_rfl,by kernel_rfl⟩
theorem fn124 (m:Ev.Module) {res:AV Ty} {outs:List (AV Ty)} (h:Ends C124 U124 (R124 m) [.code b124] ⟨slotsA (a124 m) 0 0,heapA (a124 m)⟩ (some (res,outs))):CallOk tb Try.prog 124 (a124 m) res outs:=by
 obtain ⟨n0,hn⟩:=h
 exact fn_ok (C:=C124) (U:=U124) (n:=0+n0) (q:= .keep) tbOk good (fun f mu S h=>by
  unfold C124 at h
  simp only at h
  split at h
  ·cases h;exact ⟨in28,S28_ok⟩
  ·cases h) mixed (fn:=Try.f124) (body:=b124) (by kernel_rfl) (by kernel_rfl) rfl rfl (by show 1≤120;omega) (hn 0)
section
variable {m:Ev.Module}
theorem Limits.x (h:okM m) {i:Nat} (hi:i<m.externs.length):Way C124 U124 (R124 m) (rD false) k124_l0 (s124_l0 m i [m]) k124_l0 (s124_l0 m (i+1:Nat) [m]) True:=by
 have hl:=h.1.1
 refine Way.of (fun J=>e124_l0 J m i [m]) ?_
 have w:IntKind.i64.wrap ((i:Int)+1)=((i+1:Nat):Int):=wrap_nat (by omega) (by omega)
 simp only [List.getD_cons_zero,Int.toNat_natCast,w]
 repeat' first|refine tree_qt (fun _=> ?_) (fun _=> ?_)|refine tree_qf (fun _=> ?_) (fun _=> ?_)|refine tree_nt (fun _=> ?_) (fun _=> ?_)|refine tree_nf (fun _=> ?_) (fun _=> ?_)|refine tree_et (fun _=> ?_) (fun _=> ?_)|refine tree_ef (fun _=> ?_) (fun _=> ?_)|refine tree_dt (fun _=> ?_) (fun _=> ?_)|refine tree_df (fun _=> ?_) (fun _=> ?_)|refine tree_bt (fun _=> ?_) (fun _=> ?_)|refine tree_bf (fun _=> ?_) (fun _=> ?_)|refine tree_ite (fun _=> ?_) (fun _=> ?_)
 all_goals first|exact WayT.no (fun J=>rfl)|exact WayT.yes (fun J=>rfl) (trivial)|(exfalso;omega)
theorem Limits.g (h:okM m) {i:Nat} (hi:i<m.globals.length):Way C124 U124 (R124 m) (rD false) k124_l2 (s124_l2 m i [m]) k124_l2 (s124_l2 m (i+1:Nat) [m]) True:=by
 have hl:=h.1.2.1
 refine Way.of (fun J=>e124_l2 J m i [m]) ?_
 have w:IntKind.i64.wrap ((i:Int)+1)=((i+1:Nat):Int):=wrap_nat (by omega) (by omega)
 simp only [List.getD_cons_zero,Int.toNat_natCast,w]
 repeat' first|refine tree_qt (fun _=> ?_) (fun _=> ?_)|refine tree_qf (fun _=> ?_) (fun _=> ?_)|refine tree_nt (fun _=> ?_) (fun _=> ?_)|refine tree_nf (fun _=> ?_) (fun _=> ?_)|refine tree_et (fun _=> ?_) (fun _=> ?_)|refine tree_ef (fun _=> ?_) (fun _=> ?_)|refine tree_dt (fun _=> ?_) (fun _=> ?_)|refine tree_df (fun _=> ?_) (fun _=> ?_)|refine tree_bt (fun _=> ?_) (fun _=> ?_)|refine tree_bf (fun _=> ?_) (fun _=> ?_)|refine tree_ite (fun _=> ?_) (fun _=> ?_)
 all_goals first|exact WayT.no (fun J=>rfl)|exact WayT.yes (fun J=>rfl) (trivial)|(exfalso;omega)
theorem Limits.t (h:okM m) {i:Nat} (hi:i<m.tables.length):Way C124 U124 (R124 m) (rD false) k124_l4 (s124_l4 m i [m]) k124_l4 (s124_l4 m (i+1:Nat) [m]) True:=by
 have hl:=h.1.2.2.1
 refine Way.of (fun J=>e124_l4 J m i [m]) ?_
 have w:IntKind.i64.wrap ((i:Int)+1)=((i+1:Nat):Int):=wrap_nat (by omega) (by omega)
 simp only [List.getD_cons_zero,Int.toNat_natCast,w]
 repeat' first|refine tree_qt (fun _=> ?_) (fun _=> ?_)|refine tree_qf (fun _=> ?_) (fun _=> ?_)|refine tree_nt (fun _=> ?_) (fun _=> ?_)|refine tree_nf (fun _=> ?_) (fun _=> ?_)|refine tree_et (fun _=> ?_) (fun _=> ?_)|refine tree_ef (fun _=> ?_) (fun _=> ?_)|refine tree_dt (fun _=> ?_) (fun _=> ?_)|refine tree_df (fun _=> ?_) (fun _=> ?_)|refine tree_bt (fun _=> ?_) (fun _=> ?_)|refine tree_bf (fun _=> ?_) (fun _=> ?_)|refine tree_ite (fun _=> ?_) (fun _=> ?_)
 all_goals first|exact WayT.no (fun J=>rfl)|exact WayT.yes (fun J=>rfl) (trivial)|(exfalso;omega)
theorem Limits.f (h:okM m) {i:Nat} (hi:i<m.funcs.length):Way C124 U124 (R124 m) (rD false) k124_l6 (s124_l6 m i [m]) k124_l6 (s124_l6 m (i+1:Nat) [m]) (1≤(m.funcs.getD i (Func.mk ByteArray.empty false [] 0 [])).blocks.length):=by
 have hl:=h.1.2.2.2
 have hf:=h.f hi
 refine Way.of (fun J=>e124_l6 J m i [m]) ?_
 have w:IntKind.i64.wrap ((i:Int)+1)=((i+1:Nat):Int):=wrap_nat (by omega) (by omega)
 simp only [List.getD_cons_zero,Int.toNat_natCast,w]
 repeat' first|refine tree_qt (fun _=> ?_) (fun _=> ?_)|refine tree_qf (fun _=> ?_) (fun _=> ?_)|refine tree_nt (fun _=> ?_) (fun _=> ?_)|refine tree_nf (fun _=> ?_) (fun _=> ?_)|refine tree_et (fun _=> ?_) (fun _=> ?_)|refine tree_ef (fun _=> ?_) (fun _=> ?_)|refine tree_dt (fun _=> ?_) (fun _=> ?_)|refine tree_df (fun _=> ?_) (fun _=> ?_)|refine tree_bt (fun _=> ?_) (fun _=> ?_)|refine tree_bf (fun _=> ?_) (fun _=> ?_)|refine tree_ite (fun _=> ?_) (fun _=> ?_)
 all_goals first|exact WayT.no (fun J=>rfl)|exact WayT.yes (fun J=>rfl) (by omega)|(exfalso;omega)|exact absurd hf ‹_›
end
def LimitsQ (m:Ev.Module):Prop:= ∀i,i<m.funcs.length→1≤(m.funcs.getD i (Func.mk ByteArray.empty false [] 0 [])).blocks.length
theorem limits_ok (m:Ev.Module) (h:okM m): ∃b,Tells 124 (a124 m) [.dead] (LimitsQ m) b:=by
 have:Says C124 U124 (R124 m) rD [.code b124] ⟨slotsA (a124 m) 0 0,heapA (a124 m)⟩ (LimitsQ m):=by
  refine (Way.says (k':=k124_l0) (s':=s124_l0 m (0:Nat) [m]) (Q:=True) (Q':=LimitsQ m) (Way.of (fun J=>e124 J m) ?_) fun _=> ?_).mono fun q=>q.2
  ·repeat' first|refine tree_qt (fun _=> ?_) (fun _=> ?_)|refine tree_qf (fun _=> ?_) (fun _=> ?_)|refine tree_nt (fun _=> ?_) (fun _=> ?_)|refine tree_nf (fun _=> ?_) (fun _=> ?_)|refine tree_et (fun _=> ?_) (fun _=> ?_)|refine tree_ef (fun _=> ?_) (fun _=> ?_)|refine tree_dt (fun _=> ?_) (fun _=> ?_)|refine tree_df (fun _=> ?_) (fun _=> ?_)|refine tree_bt (fun _=> ?_) (fun _=> ?_)|refine tree_bf (fun _=> ?_) (fun _=> ?_)|refine tree_ite (fun _=> ?_) (fun _=> ?_)
   all_goals first|exact WayT.no (fun J=>rfl)|exact WayT.yes (fun J=>rfl) trivial
  refine (Way.says (Q':=LimitsQ m) ((Way.upto (fun i=>s124_l0 m i [m]) _ (fun _=>True) (fun i hi _=>Limits.x h hi) _ (Nat.le_refl _)).mono fun _=>trivial) fun _=> ?_).mono fun q=>q.2
  refine Goes.says (k':=k124_l2) (s':=s124_l2 m (0:Nat) [m]) (.trans (k':=k124_j0) (s':=s124_j0 m [m]) (.step fun J=> ?_) (.step fun J=>e124_j0 ..)) ?_
  ·rw [e124_l0]
   simp only [List.getD_cons_zero,Int.toNat_natCast]
   simp (disch:=first|omega|assumption|(rw [dT];omega)|(rw [dF];omega)) only [↓iP,↓iN,iT,iF,wrap_up,tN,Nat.zero_add]
  refine (Way.says (Q':=LimitsQ m) ((Way.upto (fun i=>s124_l2 m i [m]) _ (fun _=>True) (fun i hi _=>Limits.g h hi) _ (Nat.le_refl _)).mono fun _=>trivial) fun _=> ?_).mono fun q=>q.2
  refine Goes.says (k':=k124_l4) (s':=s124_l4 m (0:Nat) [m]) (.trans (k':=k124_j2) (s':=s124_j2 m [m]) (.step fun J=> ?_) (.step fun J=>e124_j2 ..)) ?_
  ·rw [e124_l2]
   simp only [List.getD_cons_zero,Int.toNat_natCast]
   simp (disch:=first|omega|assumption|(rw [dT];omega)|(rw [dF];omega)) only [↓iP,↓iN,iT,iF,wrap_up,tN,Nat.zero_add]
  refine (Way.says (Q':=LimitsQ m) ((Way.upto (fun i=>s124_l4 m i [m]) _ (fun _=>True) (fun i hi _=>Limits.t h hi) _ (Nat.le_refl _)).mono fun _=>trivial) fun _=> ?_).mono fun q=>q.2
  refine Goes.says (k':=k124_l6) (s':=s124_l6 m (0:Nat) [m]) (.trans (k':=k124_j4) (s':=s124_j4 m [m]) (.step fun J=> ?_) (.step fun J=>e124_j4 ..)) ?_
  ·rw [e124_l4]
   simp only [List.getD_cons_zero,Int.toNat_natCast]
   simp (disch:=first|omega|assumption|(rw [dT];omega)|(rw [dF];omega)) only [↓iP,↓iN,iT,iF,wrap_up,tN,Nat.zero_add]
  refine (Way.says (Q':=True) (Way.upto (fun i=>s124_l6 m i [m]) _ _ (fun i hi _=>Limits.f h hi) _ (Nat.le_refl _)) fun _=> ?_).mono fun q=>q.1
  refine Goes.says (k':=k124_j6) (s':=s124_j6 m) (.step fun J=> ?_) (.yes (.step fun J=>e124_j6 ..) trivial)
  rw [e124_l6]
  simp only [List.getD_cons_zero,Int.toNat_natCast]
  simp (disch:=first|omega|assumption|(rw [dT];omega)|(rw [dF];omega)) only [↓iP,↓iN,iT,iF,wrap_up,tN,Nat.zero_add]
 obtain ⟨b,h1,h2⟩:=this
 exact ⟨b,fn124 m h1,h2⟩
def SymQ (m:Ev.Module) (a:Ev.Ins):Prop:=0≤a.sym_∧(a.op=2→a.sym_<m.funcs.length)∧(a.op=22→a.sym_<m.funcs.length)∧(a.op=3→a.sym_<m.globals.length)∧(a.op=23→a.sym_<m.externs.length)∧(a.op=24→a.sym_<m.tables.length)
def FnS (m:Ev.Module) (f:Ev.Func):Prop:= ∀b,b<f.blocks.length→ ∀k,k<(f.blocks.getD b (Block.mk [])).ins.length→SymQ m ((f.blocks.getD b (Block.mk [])).ins.getD k (Ins.mk 0 0 0 0 0 [] []))
noncomputable def b127:Code:=bodyOf Try.f127
def C127:Cfg Ty:=⟨fun _=>none,fun _=>false,125,0⟩
def U127:Cuts:=⟨fun
 |0=>some [(1,none)]
 |1=>some [(1,none),(3,none)]
 |2=>some [(1,none),(3,none)]
 |4=>some []
 |5=>some [(1,none),(6,none)]
 |6=>some [(1,none),(6,none)]
 |7=>some [(1,none),(6,none),(7,none)]
 |8=>some [(1,none),(6,none),(7,none)]
 |_=>none,fun
 |0=>some [(1,none),(3,none)]
 |2=>some [(1,none),(3,none),(4,none)]
 |4=>some [(1,none),(6,none)]
 |6=>some [(1,none),(6,none),(7,none)]
 |8=>some [(1,none),(6,none),(7,none),(8,none)]
 |_=>none,fun _=>none⟩
noncomputable def k127_j0:List Item:=[.code (sndC (sndC b127))]
noncomputable def k127_l0:List Item:=[.code (inC (inC (sndC (fstC (sndC b127))))), .inLoop (inC (inC (sndC (fstC (sndC b127))))), .inBlock 0, .code (sndC (sndC b127))]
noncomputable def k127_j1:List Item:=[.code (sndC (sndC (inC (inC (sndC (fstC (sndC b127))))))), .inLoop (inC (inC (sndC (fstC (sndC b127))))), .inBlock 0, .code (sndC (sndC b127))]
noncomputable def k127_j2:List Item:=[.inBlock 1, .code (sndC (sndC (inC (inC (sndC (fstC (sndC b127))))))), .inLoop (inC (inC (sndC (fstC (sndC b127))))), .inBlock 0, .code (sndC (sndC b127))]
noncomputable def k127_l2:List Item:=[.code (inC (inC (sndC (inC (fstC (sndC (inC (inC (sndC (fstC (sndC b127))))))))))), .inLoop (inC (inC (sndC (inC (fstC (sndC (inC (inC (sndC (fstC (sndC b127))))))))))), .inBlock 2, .inBlock 1, .code (sndC (sndC (inC (inC (sndC (fstC (sndC b127))))))), .inLoop (inC (inC (sndC (fstC (sndC b127))))), .inBlock 0, .code (sndC (sndC b127))]
noncomputable def k127_j4:List Item:=[.code (sndC (sndC (sndC b127)))]
noncomputable def k127_l4:List Item:=[.code (inC (inC (sndC (fstC (sndC (sndC b127)))))), .inLoop (inC (inC (sndC (fstC (sndC (sndC b127)))))), .inBlock 4, .code (sndC (sndC (sndC b127)))]
noncomputable def k127_j5:List Item:=[.code (sndC (sndC (inC (inC (sndC (fstC (sndC (sndC b127)))))))), .inLoop (inC (inC (sndC (fstC (sndC (sndC b127)))))), .inBlock 4, .code (sndC (sndC (sndC b127)))]
noncomputable def k127_j6:List Item:=[.inBlock 5, .code (sndC (sndC (inC (inC (sndC (fstC (sndC (sndC b127)))))))), .inLoop (inC (inC (sndC (fstC (sndC (sndC b127)))))), .inBlock 4, .code (sndC (sndC (sndC b127)))]
noncomputable def k127_l6:List Item:=[.code (inC (inC (sndC (inC (fstC (sndC (inC (inC (sndC (fstC (sndC (sndC b127)))))))))))), .inLoop (inC (inC (sndC (inC (fstC (sndC (inC (inC (sndC (fstC (sndC (sndC b127)))))))))))), .inBlock 6, .inBlock 5, .code (sndC (sndC (inC (inC (sndC (fstC (sndC (sndC b127)))))))), .inLoop (inC (inC (sndC (fstC (sndC (sndC b127)))))), .inBlock 4, .code (sndC (sndC (sndC b127)))]
noncomputable def k127_j7:List Item:=[.code (sndC (sndC (inC (inC (sndC (inC (fstC (sndC (inC (inC (sndC (fstC (sndC (sndC b127)))))))))))))), .inLoop (inC (inC (sndC (inC (fstC (sndC (inC (inC (sndC (fstC (sndC (sndC b127)))))))))))), .inBlock 6, .inBlock 5, .code (sndC (sndC (inC (inC (sndC (fstC (sndC (sndC b127)))))))), .inLoop (inC (inC (sndC (fstC (sndC (sndC b127)))))), .inBlock 4, .code (sndC (sndC (sndC b127)))]
noncomputable def k127_j8:List Item:=[.inBlock 7, .code (sndC (sndC (inC (inC (sndC (inC (fstC (sndC (inC (inC (sndC (fstC (sndC (sndC b127)))))))))))))), .inLoop (inC (inC (sndC (inC (fstC (sndC (inC (inC (sndC (fstC (sndC (sndC b127)))))))))))), .inBlock 6, .inBlock 5, .code (sndC (sndC (inC (inC (sndC (fstC (sndC (sndC b127)))))))), .inLoop (inC (inC (sndC (fstC (sndC (sndC b127)))))), .inBlock 4, .code (sndC (sndC (sndC b127)))]
noncomputable def k127_l8:List Item:=[.code (inC (inC (sndC (inC (fstC (sndC (inC (inC (sndC (inC (fstC (sndC (inC (inC (sndC (fstC (sndC (sndC b127)))))))))))))))))), .inLoop (inC (inC (sndC (inC (fstC (sndC (inC (inC (sndC (inC (fstC (sndC (inC (inC (sndC (fstC (sndC (sndC b127)))))))))))))))))), .inBlock 8, .inBlock 7, .code (sndC (sndC (inC (inC (sndC (inC (fstC (sndC (inC (inC (sndC (fstC (sndC (sndC b127)))))))))))))), .inLoop (inC (inC (sndC (inC (fstC (sndC (inC (inC (sndC (fstC (sndC (sndC b127)))))))))))), .inBlock 6, .inBlock 5, .code (sndC (sndC (inC (inC (sndC (fstC (sndC (sndC b127)))))))), .inLoop (inC (inC (sndC (fstC (sndC (sndC b127)))))), .inBlock 4, .code (sndC (sndC (sndC b127)))]
def a127 (m:Module):List (AV Ty):=[.agg [.sl false (91:Nat) m.externs, .sl false (94:Nat) m.globals, .sl false (96:Nat) m.tables, .sl false (33:Nat) m.funcs]]
noncomputable def R127 (m:Module):St Ty→EvR:=resT tb C127 Try.f127.results.toList .keep (a127 m)
def s127_l0 (m:Module) (v3:Int) (h0:List Module):St Ty:=St.mk [(1, .ptr (0) [] (0) (0)),(3, .v (.int .i64 v3))] [some (Root.mk (27) false h0)]
def s127_l2 (m:Module) (v3:Int) (v4:Int) (h0:List Module):St Ty:=St.mk [(1, .ptr (0) [] (0) (0)),(3, .v (.int .i64 v3)),(4, .v (.int .i64 v4))] [some (Root.mk (27) false h0)]
def s127_j0 (m:Module) (h0:List Module):St Ty:=St.mk [(1, .ptr (0) [] (0) (0))] [some (Root.mk (27) false h0)]
def s127_j2 (m:Module) (v3:Int) (h0:List Module):St Ty:=St.mk [(1, .ptr (0) [] (0) (0)),(3, .v (.int .i64 v3))] [some (Root.mk (27) false h0)]
def s127_l4 (m:Module) (v6:Int) (h0:List Module):St Ty:=St.mk [(1, .ptr (0) [] (0) (0)),(6, .v (.int .i64 v6))] [some (Root.mk (27) false h0)]
def s127_j1 (m:Module) (v3:Int) (h0:List Module):St Ty:=St.mk [(1, .ptr (0) [] (0) (0)),(3, .v (.int .i64 v3))] [some (Root.mk (27) false h0)]
def s127_l6 (m:Module) (v6:Int) (v7:Int) (h0:List Module):St Ty:=St.mk [(1, .ptr (0) [] (0) (0)),(6, .v (.int .i64 v6)),(7, .v (.int .i64 v7))] [some (Root.mk (27) false h0)]
def s127_j4 (m:Module):St Ty:=St.mk [] []
def s127_l8 (m:Module) (v6:Int) (v7:Int) (v8:Int) (h0:List Module):St Ty:=St.mk [(1, .ptr (0) [] (0) (0)),(6, .v (.int .i64 v6)),(7, .v (.int .i64 v7)),(8, .v (.int .i64 v8))] [some (Root.mk (27) false h0)]
def s127_j6 (m:Module) (v6:Int) (h0:List Module):St Ty:=St.mk [(1, .ptr (0) [] (0) (0)),(6, .v (.int .i64 v6))] [some (Root.mk (27) false h0)]
def s127_j8 (m:Module) (v6:Int) (v7:Int) (h0:List Module):St Ty:=St.mk [(1, .ptr (0) [] (0) (0)),(6, .v (.int .i64 v6)),(7, .v (.int .i64 v7))] [some (Root.mk (27) false h0)]
def s127_j5 (m:Module) (v6:Int) (h0:List Module):St Ty:=St.mk [(1, .ptr (0) [] (0) (0)),(6, .v (.int .i64 v6))] [some (Root.mk (27) false h0)]
def s127_j7 (m:Module) (v6:Int) (v7:Int) (h0:List Module):St Ty:=St.mk [(1, .ptr (0) [] (0) (0)),(6, .v (.int .i64 v6)),(7, .v (.int .i64 v7))] [some (Root.mk (27) false h0)]
theorem e127 (J m):run tb C127 U127 J (R127 m) 4096 [.code b127] ⟨slotsA (a127 m) 0 0,heapA (a127 m)⟩=
 J k127_l0 (s127_l0 m 0 ([Module.mk m.externs m.globals m.tables m.funcs])):=by kernel_rfl
theorem e127_l0 (J m v3 h0):run tb C127 U127 J (R127 m) 4096 k127_l0 (s127_l0 m v3 h0)=
 if decide (v3<(↑(h0.getD (0) (Module.mk [] [] [] [])).tables.length:Int))=true then
 J k127_l2 (s127_l2 m v3 0 h0)
 else
 J k127_j0 (s127_j0 m h0):=by kernel_rfl
theorem e127_l2 (J m v3 v4 h0):run tb C127 U127 J (R127 m) 4096 k127_l2 (s127_l2 m v3 v4 h0)=
 if 0≤v3 then
 if v3<(↑(h0.getD (0) (Module.mk [] [] [] [])).tables.length:Int) then
 if decide (v4<(↑((h0.getD (0) (Module.mk [] [] [] [])).tables.getD v3.toNat (Table.mk ByteArray.empty [])).funcs.length:Int))=true then
 if 0≤v3 then
 if v3<(↑(h0.getD (0) (Module.mk [] [] [] [])).tables.length:Int) then
 if 0≤v4 then
 if v4<(↑((h0.getD (0) (Module.mk [] [] [] [])).tables.getD v3.toNat (Table.mk ByteArray.empty [])).funcs.length:Int) then
 if decide (((h0.getD (0) (Module.mk [] [] [] [])).tables.getD v3.toNat (Table.mk ByteArray.empty [])).funcs.getD v4.toNat 0<(-1:Int))=false then
 if decide (((h0.getD (0) (Module.mk [] [] [] [])).tables.getD v3.toNat (Table.mk ByteArray.empty [])).funcs.getD v4.toNat 0≥(↑(h0.getD (0) (Module.mk [] [] [] [])).funcs.length:Int))=true then
 some (.v (.bool false),[.dead])
 else
 J k127_l2 (s127_l2 m v3 (IntKind.i64.wrap (v4+1)) h0)
 else
 some (.v (.bool false),[.dead])
 else none
 else none
 else none
 else none
 else
 J k127_j2 (s127_j2 m v3 h0)
 else none
 else none:=by kernel_rfl
theorem e127_j0 (J m h0):run tb C127 U127 J (R127 m) 4096 k127_j0 (s127_j0 m h0)=
 J k127_l4 (s127_l4 m 0 h0):=by kernel_rfl
theorem e127_j2 (J m v3 h0):run tb C127 U127 J (R127 m) 4096 k127_j2 (s127_j2 m v3 h0)=
 J k127_j1 (s127_j1 m v3 h0):=by kernel_rfl
theorem e127_l4 (J m v6 h0):run tb C127 U127 J (R127 m) 4096 k127_l4 (s127_l4 m v6 h0)=
 if decide (v6<(↑(h0.getD (0) (Module.mk [] [] [] [])).funcs.length:Int))=true then
 J k127_l6 (s127_l6 m v6 0 h0)
 else
 J k127_j4 (s127_j4 m):=by kernel_rfl
theorem e127_j1 (J m v3 h0):run tb C127 U127 J (R127 m) 4096 k127_j1 (s127_j1 m v3 h0)=
 J k127_l0 (s127_l0 m (IntKind.i64.wrap (v3+1)) h0):=by kernel_rfl
theorem e127_l6 (J m v6 v7 h0):run tb C127 U127 J (R127 m) 4096 k127_l6 (s127_l6 m v6 v7 h0)=
 if 0≤v6 then
 if v6<(↑(h0.getD (0) (Module.mk [] [] [] [])).funcs.length:Int) then
 if decide (v7<(↑((h0.getD (0) (Module.mk [] [] [] [])).funcs.getD v6.toNat (Func.mk ByteArray.empty false [] 0 [])).blocks.length:Int))=true then
 J k127_l8 (s127_l8 m v6 v7 0 h0)
 else
 J k127_j6 (s127_j6 m v6 h0)
 else none
 else none:=by kernel_rfl
theorem e127_j4 (J m):run tb C127 U127 J (R127 m) 4096 k127_j4 (s127_j4 m)=
 some (.v (.bool true),[.dead]):=by kernel_rfl
theorem e127_l8 (J m v6 v7 v8 h0):run tb C127 U127 J (R127 m) 4096 k127_l8 (s127_l8 m v6 v7 v8 h0)=
 if 0≤v6 then
 if v6<(↑(h0.getD (0) (Module.mk [] [] [] [])).funcs.length:Int) then
 if 0≤v7 then
 if v7<(↑((h0.getD (0) (Module.mk [] [] [] [])).funcs.getD v6.toNat (Func.mk ByteArray.empty false [] 0 [])).blocks.length:Int) then
 if decide (v8<(↑(((h0.getD (0) (Module.mk [] [] [] [])).funcs.getD v6.toNat (Func.mk ByteArray.empty false [] 0 [])).blocks.getD v7.toNat (Block.mk [])).ins.length:Int))=true then
 if 0≤v6 then
 if v6<(↑(h0.getD (0) (Module.mk [] [] [] [])).funcs.length:Int) then
 if 0≤v7 then
 if v7<(↑((h0.getD (0) (Module.mk [] [] [] [])).funcs.getD v6.toNat (Func.mk ByteArray.empty false [] 0 [])).blocks.length:Int) then
 if 0≤v8 then
 if v8<(↑(((h0.getD (0) (Module.mk [] [] [] [])).funcs.getD v6.toNat (Func.mk ByteArray.empty false [] 0 [])).blocks.getD v7.toNat (Block.mk [])).ins.length:Int) then
 if (((((h0.getD (0) (Module.mk [] [] [] [])).funcs.getD v6.toNat (Func.mk ByteArray.empty false [] 0 [])).blocks.getD v7.toNat (Block.mk [])).ins.getD v8.toNat (Ins.mk 0 0 0 0 0 [] [])).op == 2)=true then
 if decide (((((h0.getD (0) (Module.mk [] [] [] [])).funcs.getD v6.toNat (Func.mk ByteArray.empty false [] 0 [])).blocks.getD v7.toNat (Block.mk [])).ins.getD v8.toNat (Ins.mk 0 0 0 0 0 [] [])).sym_<0)=false then
 if decide (((((h0.getD (0) (Module.mk [] [] [] [])).funcs.getD v6.toNat (Func.mk ByteArray.empty false [] 0 [])).blocks.getD v7.toNat (Block.mk [])).ins.getD v8.toNat (Ins.mk 0 0 0 0 0 [] [])).sym_≥(↑(h0.getD (0) (Module.mk [] [] [] [])).funcs.length:Int))=true then
 some (.v (.bool false),[.dead])
 else
 J k127_l8 (s127_l8 m v6 v7 (IntKind.i64.wrap (v8+1)) h0)
 else
 some (.v (.bool false),[.dead])
 else
 if (((((h0.getD (0) (Module.mk [] [] [] [])).funcs.getD v6.toNat (Func.mk ByteArray.empty false [] 0 [])).blocks.getD v7.toNat (Block.mk [])).ins.getD v8.toNat (Ins.mk 0 0 0 0 0 [] [])).op == 22)=true then
 if decide (((((h0.getD (0) (Module.mk [] [] [] [])).funcs.getD v6.toNat (Func.mk ByteArray.empty false [] 0 [])).blocks.getD v7.toNat (Block.mk [])).ins.getD v8.toNat (Ins.mk 0 0 0 0 0 [] [])).sym_<0)=false then
 if decide (((((h0.getD (0) (Module.mk [] [] [] [])).funcs.getD v6.toNat (Func.mk ByteArray.empty false [] 0 [])).blocks.getD v7.toNat (Block.mk [])).ins.getD v8.toNat (Ins.mk 0 0 0 0 0 [] [])).sym_≥(↑(h0.getD (0) (Module.mk [] [] [] [])).funcs.length:Int))=true then
 some (.v (.bool false),[.dead])
 else
 J k127_l8 (s127_l8 m v6 v7 (IntKind.i64.wrap (v8+1)) h0)
 else
 some (.v (.bool false),[.dead])
 else
 if (((((h0.getD (0) (Module.mk [] [] [] [])).funcs.getD v6.toNat (Func.mk ByteArray.empty false [] 0 [])).blocks.getD v7.toNat (Block.mk [])).ins.getD v8.toNat (Ins.mk 0 0 0 0 0 [] [])).op == 3)=true then
 if decide (((((h0.getD (0) (Module.mk [] [] [] [])).funcs.getD v6.toNat (Func.mk ByteArray.empty false [] 0 [])).blocks.getD v7.toNat (Block.mk [])).ins.getD v8.toNat (Ins.mk 0 0 0 0 0 [] [])).sym_<0)=false then
 if decide (((((h0.getD (0) (Module.mk [] [] [] [])).funcs.getD v6.toNat (Func.mk ByteArray.empty false [] 0 [])).blocks.getD v7.toNat (Block.mk [])).ins.getD v8.toNat (Ins.mk 0 0 0 0 0 [] [])).sym_≥(↑(h0.getD (0) (Module.mk [] [] [] [])).globals.length:Int))=true then
 some (.v (.bool false),[.dead])
 else
 J k127_l8 (s127_l8 m v6 v7 (IntKind.i64.wrap (v8+1)) h0)
 else
 some (.v (.bool false),[.dead])
 else
 if (((((h0.getD (0) (Module.mk [] [] [] [])).funcs.getD v6.toNat (Func.mk ByteArray.empty false [] 0 [])).blocks.getD v7.toNat (Block.mk [])).ins.getD v8.toNat (Ins.mk 0 0 0 0 0 [] [])).op == 23)=true then
 if decide (((((h0.getD (0) (Module.mk [] [] [] [])).funcs.getD v6.toNat (Func.mk ByteArray.empty false [] 0 [])).blocks.getD v7.toNat (Block.mk [])).ins.getD v8.toNat (Ins.mk 0 0 0 0 0 [] [])).sym_<0)=false then
 if decide (((((h0.getD (0) (Module.mk [] [] [] [])).funcs.getD v6.toNat (Func.mk ByteArray.empty false [] 0 [])).blocks.getD v7.toNat (Block.mk [])).ins.getD v8.toNat (Ins.mk 0 0 0 0 0 [] [])).sym_≥(↑(h0.getD (0) (Module.mk [] [] [] [])).externs.length:Int))=true then
 some (.v (.bool false),[.dead])
 else
 J k127_l8 (s127_l8 m v6 v7 (IntKind.i64.wrap (v8+1)) h0)
 else
 some (.v (.bool false),[.dead])
 else
 if (((((h0.getD (0) (Module.mk [] [] [] [])).funcs.getD v6.toNat (Func.mk ByteArray.empty false [] 0 [])).blocks.getD v7.toNat (Block.mk [])).ins.getD v8.toNat (Ins.mk 0 0 0 0 0 [] [])).op == 24)=true then
 if decide (((((h0.getD (0) (Module.mk [] [] [] [])).funcs.getD v6.toNat (Func.mk ByteArray.empty false [] 0 [])).blocks.getD v7.toNat (Block.mk [])).ins.getD v8.toNat (Ins.mk 0 0 0 0 0 [] [])).sym_<0)=false then
 if decide (((((h0.getD (0) (Module.mk [] [] [] [])).funcs.getD v6.toNat (Func.mk ByteArray.empty false [] 0 [])).blocks.getD v7.toNat (Block.mk [])).ins.getD v8.toNat (Ins.mk 0 0 0 0 0 [] [])).sym_≥(↑(h0.getD (0) (Module.mk [] [] [] [])).tables.length:Int))=true then
 some (.v (.bool false),[.dead])
 else
 J k127_l8 (s127_l8 m v6 v7 (IntKind.i64.wrap (v8+1)) h0)
 else
 some (.v (.bool false),[.dead])
 else
 if decide (((((h0.getD (0) (Module.mk [] [] [] [])).funcs.getD v6.toNat (Func.mk ByteArray.empty false [] 0 [])).blocks.getD v7.toNat (Block.mk [])).ins.getD v8.toNat (Ins.mk 0 0 0 0 0 [] [])).sym_<0)=false then
 if decide (((((h0.getD (0) (Module.mk [] [] [] [])).funcs.getD v6.toNat (Func.mk ByteArray.empty false [] 0 [])).blocks.getD v7.toNat (Block.mk [])).ins.getD v8.toNat (Ins.mk 0 0 0 0 0 [] [])).sym_≥1)=true then
 some (.v (.bool false),[.dead])
 else
 J k127_l8 (s127_l8 m v6 v7 (IntKind.i64.wrap (v8+1)) h0)
 else
 some (.v (.bool false),[.dead])
 else none
 else none
 else none
 else none
 else none
 else none
 else
 J k127_j8 (s127_j8 m v6 v7 h0)
 else none
 else none
 else none
 else none:=by kernel_rfl
theorem e127_j6 (J m v6 h0):run tb C127 U127 J (R127 m) 4096 k127_j6 (s127_j6 m v6 h0)=
 J k127_j5 (s127_j5 m v6 h0):=by kernel_rfl
theorem e127_j8 (J m v6 v7 h0):run tb C127 U127 J (R127 m) 4096 k127_j8 (s127_j8 m v6 v7 h0)=
 J k127_j7 (s127_j7 m v6 v7 h0):=by kernel_rfl
theorem e127_j5 (J m v6 h0):run tb C127 U127 J (R127 m) 4096 k127_j5 (s127_j5 m v6 h0)=
 J k127_l4 (s127_l4 m (IntKind.i64.wrap (v6+1)) h0):=by kernel_rfl
theorem e127_j7 (J m v6 v7 h0):run tb C127 U127 J (R127 m) 4096 k127_j7 (s127_j7 m v6 v7 h0)=
 J k127_l6 (s127_l6 m v6 (IntKind.i64.wrap (v7+1)) h0):=by kernel_rfl

theorem in127:Entered 127:=⟨Try.f127,b127,by kernel_rfl,by kernel_rfl,by kernel_rfl⟩
theorem fn127 (m:Ev.Module) {res:AV Ty} {outs:List (AV Ty)} (h:Ends C127 U127 (R127 m) [.code b127] ⟨slotsA (a127 m) 0 0,heapA (a127 m)⟩ (some (res,outs))):CallOk tb Try.prog 127 (a127 m) res outs:=by
 obtain ⟨n0,hn⟩:=h
 exact fn_ok (C:=C127) (U:=U127) (n:=0+n0) (q:= .keep) tbOk good (fun f mu S h=>by cases h) mixed (fn:=Try.f127) (body:=b127) (by kernel_rfl) (by kernel_rfl) rfl rfl (by show 1≤125;omega) (hn 0)
section
variable {m:Ev.Module}
theorem Syms.tf (h:okM m) {i j:Nat} (hi:i<m.tables.length) (hj:j<(m.tables.getD i (Table.mk ByteArray.empty [])).funcs.length):Way C127 U127 (R127 m) (rD false) k127_l2 (s127_l2 m i j [m]) k127_l2 (s127_l2 m i (j+1:Nat) [m]) True:=by
 have hl:=h.t hi
 refine Way.of (fun J=>e127_l2 J m i j [m]) ?_
 have w:IntKind.i64.wrap ((j:Int)+1)=((j+1:Nat):Int):=wrap_nat (by omega) (by omega)
 simp only [List.getD_cons_zero,Int.toNat_natCast,w]
 repeat' first|refine tree_qt (fun _=> ?_) (fun _=> ?_)|refine tree_qf (fun _=> ?_) (fun _=> ?_)|refine tree_nt (fun _=> ?_) (fun _=> ?_)|refine tree_nf (fun _=> ?_) (fun _=> ?_)|refine tree_et (fun _=> ?_) (fun _=> ?_)|refine tree_ef (fun _=> ?_) (fun _=> ?_)|refine tree_dt (fun _=> ?_) (fun _=> ?_)|refine tree_df (fun _=> ?_) (fun _=> ?_)|refine tree_bt (fun _=> ?_) (fun _=> ?_)|refine tree_bf (fun _=> ?_) (fun _=> ?_)|refine tree_ite (fun _=> ?_) (fun _=> ?_)
 all_goals first|exact WayT.no (fun J=>rfl)|exact WayT.yes (fun J=>rfl) (trivial)|(exfalso;omega)
theorem Syms.t (h:okM m) {i:Nat} (hi:i<m.tables.length):Way C127 U127 (R127 m) (rD false) k127_l0 (s127_l0 m i [m]) k127_l0 (s127_l0 m (i+1:Nat) [m]) True:=by
 have hl:=h.1.2.2.1
 refine Goes.way (k':=k127_l2) (s':=s127_l2 m i (0:Nat) [m]) (.step fun J=> ?_) ?_
 ·rw [e127_l0]
  simp only [List.getD_cons_zero,Int.toNat_natCast]
  simp (disch:=first|omega|assumption|(rw [dT];omega)|(rw [dF];omega)) only [↓iP,↓iN,iT,iF,wrap_up,tN,Nat.zero_add]
  rfl
 refine ((Way.upto (fun k=>s127_l2 m i k [m]) _ (fun _=>True) (fun k hk _=>Syms.tf h hi hk) _ (Nat.le_refl _)).then fun _=> ?_).mono fun _=>trivial
 refine Goes.trans (k':=k127_j2) (s':=s127_j2 m i [m]) (.step fun J=> ?_) (.trans (.step fun J=>e127_j2 ..) (.step fun J=> ?_))
 ·rw [e127_l2]
  simp only [List.getD_cons_zero,Int.toNat_natCast]
  simp (disch:=first|omega|assumption|(rw [dT];omega)|(rw [dF];omega)) only [↓iP,↓iN,iT,iF,wrap_up,tN,Nat.zero_add]
 ·rw [e127_j1,wrap_nat (n:=i+1) (by omega) (by omega)]
theorem Syms.fi (h:okM m) {i b k:Nat} (hi:i<m.funcs.length) (hb:b<(m.funcs.getD i (Func.mk ByteArray.empty false [] 0 [])).blocks.length) (hk:k<((m.funcs.getD i (Func.mk ByteArray.empty false [] 0 [])).blocks.getD b (Block.mk [])).ins.length):Way C127 U127 (R127 m) (rD false) k127_l8 (s127_l8 m i b k [m]) k127_l8 (s127_l8 m i b (k+1:Nat) [m]) (SymQ m (((m.funcs.getD i (Func.mk ByteArray.empty false [] 0 [])).blocks.getD b (Block.mk [])).ins.getD k (Ins.mk 0 0 0 0 0 [] []))):=by
 have h1:=(h.f hi).b hb
 refine Way.of (fun J=>e127_l8 J m i b k [m]) ?_
 have w:IntKind.i64.wrap ((k:Int)+1)=((k+1:Nat):Int):=wrap_nat (by omega) (by omega)
 simp only [List.getD_cons_zero,Int.toNat_natCast,w]
 repeat' first|refine tree_qt (fun _=> ?_) (fun _=> ?_)|refine tree_qf (fun _=> ?_) (fun _=> ?_)|refine tree_nt (fun _=> ?_) (fun _=> ?_)|refine tree_nf (fun _=> ?_) (fun _=> ?_)|refine tree_et (fun _=> ?_) (fun _=> ?_)|refine tree_ef (fun _=> ?_) (fun _=> ?_)|refine tree_dt (fun _=> ?_) (fun _=> ?_)|refine tree_df (fun _=> ?_) (fun _=> ?_)|refine tree_bt (fun _=> ?_) (fun _=> ?_)|refine tree_bf (fun _=> ?_) (fun _=> ?_)|refine tree_ite (fun _=> ?_) (fun _=> ?_)
 all_goals first|exact WayT.no (fun J=>rfl)|exact WayT.yes (fun J=>rfl) (by refine ⟨?_,fun _=> ?_,fun _=> ?_,fun _=> ?_,fun _=> ?_,fun _=> ?_⟩<;>omega)|(exfalso;omega)
theorem Syms.fb (h:okM m) {i b:Nat} (hi:i<m.funcs.length) (hb:b<(m.funcs.getD i (Func.mk ByteArray.empty false [] 0 [])).blocks.length):Way C127 U127 (R127 m) (rD false) k127_l6 (s127_l6 m i b [m]) k127_l6 (s127_l6 m i (b+1:Nat) [m]) (∀k,k<((m.funcs.getD i (Func.mk ByteArray.empty false [] 0 [])).blocks.getD b (Block.mk [])).ins.length→SymQ m (((m.funcs.getD i (Func.mk ByteArray.empty false [] 0 [])).blocks.getD b (Block.mk [])).ins.getD k (Ins.mk 0 0 0 0 0 [] []))):=by
 have h0:=(h.f hi).2.1
 refine Goes.way (k':=k127_l8) (s':=s127_l8 m i b (0:Nat) [m]) (.step fun J=> ?_) ?_
 ·rw [e127_l6]
  simp only [List.getD_cons_zero,Int.toNat_natCast]
  simp (disch:=first|omega|assumption|(rw [dT];omega)|(rw [dF];omega)) only [↓iP,↓iN,iT,iF,wrap_up,tN,Nat.zero_add]
  rfl
 refine (Way.upto (fun k=>s127_l8 m i b k [m]) _ _ (fun k hk _=>Syms.fi h hi hb hk) _ (Nat.le_refl _)).then fun _=> ?_
 refine Goes.trans (k':=k127_j8) (s':=s127_j8 m i b [m]) (.step fun J=> ?_) (.trans (.step fun J=>e127_j8 ..) (.step fun J=> ?_))
 ·rw [e127_l8]
  simp only [List.getD_cons_zero,Int.toNat_natCast]
  simp (disch:=first|omega|assumption|(rw [dT];omega)|(rw [dF];omega)) only [↓iP,↓iN,iT,iF,wrap_up,tN,Nat.zero_add]
 ·rw [e127_j7,wrap_nat (n:=b+1) (by omega) (by omega)]
theorem Syms.f (h:okM m) {i:Nat} (hi:i<m.funcs.length):Way C127 U127 (R127 m) (rD false) k127_l4 (s127_l4 m i [m]) k127_l4 (s127_l4 m (i+1:Nat) [m]) (FnS m (m.funcs.getD i (Func.mk ByteArray.empty false [] 0 []))):=by
 have hl:=h.1.2.2.2
 refine Goes.way (k':=k127_l6) (s':=s127_l6 m i (0:Nat) [m]) (.step fun J=> ?_) ?_
 ·rw [e127_l4]
  simp only [List.getD_cons_zero,Int.toNat_natCast]
  simp (disch:=first|omega|assumption|(rw [dT];omega)|(rw [dF];omega)) only [↓iP,↓iN,iT,iF,wrap_up,tN,Nat.zero_add]
  rfl
 refine (Way.upto (fun b=>s127_l6 m i b [m]) _ _ (fun b hb _=>Syms.fb h hi hb) _ (Nat.le_refl _)).then fun _=> ?_
 refine Goes.trans (k':=k127_j6) (s':=s127_j6 m i [m]) (.step fun J=> ?_) (.trans (.step fun J=>e127_j6 ..) (.step fun J=> ?_))
 ·rw [e127_l6]
  simp only [List.getD_cons_zero,Int.toNat_natCast]
  simp (disch:=first|omega|assumption|(rw [dT];omega)|(rw [dF];omega)) only [↓iP,↓iN,iT,iF,wrap_up,tN,Nat.zero_add]
 ·rw [e127_j5,wrap_nat (n:=i+1) (by omega) (by omega)]
end
def SymsQ (m:Ev.Module):Prop:= ∀i,i<m.funcs.length→FnS m (m.funcs.getD i (Func.mk ByteArray.empty false [] 0 []))
theorem syms_ok (m:Ev.Module) (h:okM m): ∃b,Tells 127 (a127 m) [.dead] (SymsQ m) b:=by
 have:Says C127 U127 (R127 m) rD [.code b127] ⟨slotsA (a127 m) 0 0,heapA (a127 m)⟩ (SymsQ m):=by
  refine Goes.says (k':=k127_l0) (s':=s127_l0 m (0:Nat) [m]) (.step fun J=>e127 ..) ?_
  refine (Way.says (Q':=SymsQ m) ((Way.upto (fun i=>s127_l0 m i [m]) _ (fun _=>True) (fun i hi _=>Syms.t h hi) _ (Nat.le_refl _)).mono fun _=>trivial) fun _=> ?_).mono fun q=>q.2
  refine Goes.says (k':=k127_l4) (s':=s127_l4 m (0:Nat) [m]) (.trans (k':=k127_j0) (s':=s127_j0 m [m]) (.step fun J=> ?_) (.step fun J=>e127_j0 ..)) ?_
  ·rw [e127_l0]
   simp only [List.getD_cons_zero,Int.toNat_natCast]
   simp (disch:=first|omega|assumption|(rw [dT];omega)|(rw [dF];omega)) only [↓iP,↓iN,iT,iF,wrap_up,tN,Nat.zero_add]
  refine (Way.says (Q':=True) (Way.upto (fun i=>s127_l4 m i [m]) _ _ (fun i hi _=>Syms.f h hi) _ (Nat.le_refl _)) fun _=> ?_).mono fun q=>q.1
  refine Goes.says (k':=k127_j4) (s':=s127_j4 m) (.step fun J=> ?_) (.yes (.step fun J=>e127_j4 ..) trivial)
  rw [e127_l4]
  simp only [List.getD_cons_zero,Int.toNat_natCast]
  simp (disch:=first|omega|assumption|(rw [dT];omega)|(rw [dF];omega)) only [↓iP,↓iN,iT,iF,wrap_up,tN,Nat.zero_add]
 obtain ⟨b,h1,h2⟩:=this
 exact ⟨b,fn127 m h1,h2⟩
noncomputable def b126:Code:=bodyOf Try.f126
noncomputable def C126:Cfg Ty:=⟨fun
 |149=>some ([],S149)
 |_=>none,fun _=>false,80,0⟩
def U126:Cuts:=⟨fun
 |0=>some [(1,none),(3,none),(4,none)]
 |2=>some [(1,none),(3,none),(4,none)]
 |4=>some [(1,none),(3,none),(4,none)]
 |6=>some [(4,none)]
 |_=>none,fun
 |0=>some [(1,none),(3,none),(4,none),(5,none)]
 |2=>some [(1,none),(3,none),(4,none),(6,none)]
 |4=>some [(1,none),(3,none),(4,none),(7,none)]
 |6=>some [(1,none),(3,none),(4,none),(8,none)]
 |_=>none,fun _=>none⟩
noncomputable def k126_j0:List Item:=[.code (sndC (sndC (sndC (sndC b126))))]
noncomputable def k126_l0:List Item:=[.code (inC (inC (sndC (fstC (sndC (sndC (sndC b126))))))), .inLoop (inC (inC (sndC (fstC (sndC (sndC (sndC b126))))))), .inBlock 0, .code (sndC (sndC (sndC (sndC b126))))]
noncomputable def k126_j2:List Item:=[.code (sndC (sndC (sndC (sndC (sndC b126)))))]
noncomputable def k126_l2:List Item:=[.code (inC (inC (sndC (fstC (sndC (sndC (sndC (sndC b126)))))))), .inLoop (inC (inC (sndC (fstC (sndC (sndC (sndC (sndC b126)))))))), .inBlock 2, .code (sndC (sndC (sndC (sndC (sndC b126)))))]
noncomputable def k126_j4:List Item:=[.code (sndC (sndC (sndC (sndC (sndC (sndC b126))))))]
noncomputable def k126_l4:List Item:=[.code (inC (inC (sndC (fstC (sndC (sndC (sndC (sndC (sndC b126))))))))), .inLoop (inC (inC (sndC (fstC (sndC (sndC (sndC (sndC (sndC b126))))))))), .inBlock 4, .code (sndC (sndC (sndC (sndC (sndC (sndC b126))))))]
noncomputable def k126_j6:List Item:=[.code (sndC (sndC (sndC (sndC (sndC (sndC (sndC b126)))))))]
noncomputable def k126_l6:List Item:=[.code (inC (inC (sndC (fstC (sndC (sndC (sndC (sndC (sndC (sndC b126)))))))))), .inLoop (inC (inC (sndC (fstC (sndC (sndC (sndC (sndC (sndC (sndC b126)))))))))), .inBlock 6, .code (sndC (sndC (sndC (sndC (sndC (sndC (sndC b126)))))))]
def a126 (m:Module):List (AV Ty):=[.agg [.sl false (91:Nat) m.externs, .sl false (94:Nat) m.globals, .sl false (96:Nat) m.tables, .sl false (33:Nat) m.funcs]]
noncomputable def R126 (m:Module):St Ty→EvR:=resT tb C126 Try.f126.results.toList .keep (a126 m)
def s126_l0 (m:Module) (v3:List (Value×Int)) (v4:Int) (v5:Int) (h0:List Module):St Ty:=St.mk [(1, .ptr (0) [] (0) (0)),(3,AV.mp none IntKind.i64 v3),(4, .v (.int .i64 v4)),(5, .v (.int .i64 v5))] [some (Root.mk (27) false h0)]
def s126_j0 (m:Module) (v3:List (Value×Int)) (v4:Int) (h0:List Module):St Ty:=St.mk [(1, .ptr (0) [] (0) (0)),(3,AV.mp none IntKind.i64 v3),(4, .v (.int .i64 v4))] [some (Root.mk (27) false h0)]
def s126_l2 (m:Module) (v3:List (Value×Int)) (v4:Int) (v6:Int) (h0:List Module):St Ty:=St.mk [(1, .ptr (0) [] (0) (0)),(3,AV.mp none IntKind.i64 v3),(4, .v (.int .i64 v4)),(6, .v (.int .i64 v6))] [some (Root.mk (27) false h0)]
def s126_j2 (m:Module) (v3:List (Value×Int)) (v4:Int) (h0:List Module):St Ty:=St.mk [(1, .ptr (0) [] (0) (0)),(3,AV.mp none IntKind.i64 v3),(4, .v (.int .i64 v4))] [some (Root.mk (27) false h0)]
def s126_l4 (m:Module) (v3:List (Value×Int)) (v4:Int) (v7:Int) (h0:List Module):St Ty:=St.mk [(1, .ptr (0) [] (0) (0)),(3,AV.mp none IntKind.i64 v3),(4, .v (.int .i64 v4)),(7, .v (.int .i64 v7))] [some (Root.mk (27) false h0)]
def s126_j4 (m:Module) (v3:List (Value×Int)) (v4:Int) (h0:List Module):St Ty:=St.mk [(1, .ptr (0) [] (0) (0)),(3,AV.mp none IntKind.i64 v3),(4, .v (.int .i64 v4))] [some (Root.mk (27) false h0)]
def s126_l6 (m:Module) (v3:List (Value×Int)) (v4:Int) (v8:Int) (h0:List Module):St Ty:=St.mk [(1, .ptr (0) [] (0) (0)),(3,AV.mp none IntKind.i64 v3),(4, .v (.int .i64 v4)),(8, .v (.int .i64 v8))] [some (Root.mk (27) false h0)]
def s126_j6 (m:Module) (v4:Int):St Ty:=St.mk [(4, .v (.int .i64 v4))] []
theorem e126 (J m):run tb C126 U126 J (R126 m) 4096 [.code b126] ⟨slotsA (a126 m) 0 0,heapA (a126 m)⟩=
 J k126_l0 (s126_l0 m ([]) 0 0 ([Module.mk m.externs m.globals m.tables m.funcs])):=by kernel_rfl
theorem e126_l0 (J m v3 v4 v5 h0):run tb C126 U126 J (R126 m) 4096 k126_l0 (s126_l0 m v3 v4 v5 h0)=
 if decide (v5<(↑(h0.getD (0) (Module.mk [] [] [] [])).externs.length:Int))=true then
 if 0≤v5 then
 if v5<(↑(h0.getD (0) (Module.mk [] [] [] [])).externs.length:Int) then
 J k126_l0 (s126_l0 m (oneM v3 ((h0.getD (0) (Module.mk [] [] [] [])).externs.getD v5.toNat (Extern.mk ByteArray.empty [] 0)).name) (IntKind.i64.wrap (v4+oneI v3 ((h0.getD (0) (Module.mk [] [] [] [])).externs.getD v5.toNat (Extern.mk ByteArray.empty [] 0)).name)) (IntKind.i64.wrap (v5+1)) h0)
 else none
 else none
 else
 J k126_j0 (s126_j0 m v3 v4 h0):=by kernel_rfl
theorem e126_j0 (J m v3 v4 h0):run tb C126 U126 J (R126 m) 4096 k126_j0 (s126_j0 m v3 v4 h0)=
 J k126_l2 (s126_l2 m v3 v4 0 h0):=by kernel_rfl
theorem e126_l2 (J m v3 v4 v6 h0):run tb C126 U126 J (R126 m) 4096 k126_l2 (s126_l2 m v3 v4 v6 h0)=
 if decide (v6<(↑(h0.getD (0) (Module.mk [] [] [] [])).globals.length:Int))=true then
 if 0≤v6 then
 if v6<(↑(h0.getD (0) (Module.mk [] [] [] [])).globals.length:Int) then
 J k126_l2 (s126_l2 m (oneM v3 ((h0.getD (0) (Module.mk [] [] [] [])).globals.getD v6.toNat (Global.mk ByteArray.empty [])).name) (IntKind.i64.wrap (v4+oneI v3 ((h0.getD (0) (Module.mk [] [] [] [])).globals.getD v6.toNat (Global.mk ByteArray.empty [])).name)) (IntKind.i64.wrap (v6+1)) h0)
 else none
 else none
 else
 J k126_j2 (s126_j2 m v3 v4 h0):=by kernel_rfl
theorem e126_j2 (J m v3 v4 h0):run tb C126 U126 J (R126 m) 4096 k126_j2 (s126_j2 m v3 v4 h0)=
 J k126_l4 (s126_l4 m v3 v4 0 h0):=by kernel_rfl
theorem e126_l4 (J m v3 v4 v7 h0):run tb C126 U126 J (R126 m) 4096 k126_l4 (s126_l4 m v3 v4 v7 h0)=
 if decide (v7<(↑(h0.getD (0) (Module.mk [] [] [] [])).tables.length:Int))=true then
 if 0≤v7 then
 if v7<(↑(h0.getD (0) (Module.mk [] [] [] [])).tables.length:Int) then
 J k126_l4 (s126_l4 m (oneM v3 ((h0.getD (0) (Module.mk [] [] [] [])).tables.getD v7.toNat (Table.mk ByteArray.empty [])).name) (IntKind.i64.wrap (v4+oneI v3 ((h0.getD (0) (Module.mk [] [] [] [])).tables.getD v7.toNat (Table.mk ByteArray.empty [])).name)) (IntKind.i64.wrap (v7+1)) h0)
 else none
 else none
 else
 J k126_j4 (s126_j4 m v3 v4 h0):=by kernel_rfl
theorem e126_j4 (J m v3 v4 h0):run tb C126 U126 J (R126 m) 4096 k126_j4 (s126_j4 m v3 v4 h0)=
 J k126_l6 (s126_l6 m v3 v4 0 h0):=by kernel_rfl
theorem e126_l6 (J m v3 v4 v8 h0):run tb C126 U126 J (R126 m) 4096 k126_l6 (s126_l6 m v3 v4 v8 h0)=
 if decide (v8<(↑(h0.getD (0) (Module.mk [] [] [] [])).funcs.length:Int))=true then
 if 0≤v8 then
 if v8<(↑(h0.getD (0) (Module.mk [] [] [] [])).funcs.length:Int) then
 J k126_l6 (s126_l6 m (oneM v3 ((h0.getD (0) (Module.mk [] [] [] [])).funcs.getD v8.toNat (Func.mk ByteArray.empty false [] 0 [])).name) (IntKind.i64.wrap (v4+oneI v3 ((h0.getD (0) (Module.mk [] [] [] [])).funcs.getD v8.toNat (Func.mk ByteArray.empty false [] 0 [])).name)) (IntKind.i64.wrap (v8+1)) h0)
 else none
 else none
 else
 J k126_j6 (s126_j6 m v4):=by kernel_rfl
theorem e126_j6 (J m v4):run tb C126 U126 J (R126 m) 4096 k126_j6 (s126_j6 m v4)=
 some (.v (.bool (v4 == 0)),[.dead]):=by kernel_rfl

theorem in126:Entered 126:=⟨Try.f126,b126,by kernel_rfl,by kernel_rfl,by kernel_rfl⟩
theorem fn126 (m:Ev.Module) {res:AV Ty} {outs:List (AV Ty)} (h:Ends C126 U126 (R126 m) [.code b126] ⟨slotsA (a126 m) 0 0,heapA (a126 m)⟩ (some (res,outs))):CallOk tb Try.prog 126 (a126 m) res outs:=by
 obtain ⟨n0,hn⟩:=h
 exact fn_ok (C:=C126) (U:=U126) (n:=0+n0) (q:= .keep) tbOk good (fun f mu S h=>by
  unfold C126 at h
  simp only at h
  split at h
  ·cases h;exact ⟨in149,S149_ok⟩
  ·cases h) mixed (fn:=Try.f126) (body:=b126) (by kernel_rfl) (by kernel_rfl) rfl rfl (by show 1≤80;omega) (hn 0)
section
variable {m:Ev.Module}
theorem Names.l0 (h:m.externs.length≤1000) (G:List (Value×Int)×Int): ∃G':List (Value×Int)×Int,Goes C126 U126 (R126 m) k126_l0 (s126_l0 m G.1 G.2 (0:Nat) [m]) k126_l0 (s126_l0 m G'.1 G'.2 m.externs.length [m]):=by
 have key:=Goes.shape (C:=C126) (U:=U126) (Rt:=R126 m) (k:=k126_l0) (fun (i:Nat) (G:List (Value×Int)×Int)=>s126_l0 m G.1 G.2 i [m]) m.externs.length (fun _=>True) (fun i G hi _=>⟨(oneM G.1 (m.externs.getD i (Extern.mk ByteArray.empty [] 0)).name,IntKind.i64.wrap (G.2+oneI G.1 (m.externs.getD i (Extern.mk ByteArray.empty [] 0)).name)),trivial, .step fun J=>by
  have w:IntKind.i64.wrap ((i:Int)+1)=((i+1:Nat):Int):=wrap_nat (by omega) (by omega)
  rw [e126_l0]
  simp only [List.getD_cons_zero,Int.toNat_natCast,w]
  simp (disch:=first|omega|assumption|(rw [dT];omega)|(rw [dF];omega)) only [↓iP,↓iN,iT,iF,wrap_up,tN,Nat.zero_add]⟩) m.externs.length 0 G (by omega) trivial
 obtain ⟨G',_,h⟩:=key
 exact ⟨G',h⟩
theorem Names.l2 (h:m.globals.length≤1000) (G:List (Value×Int)×Int): ∃G':List (Value×Int)×Int,Goes C126 U126 (R126 m) k126_l2 (s126_l2 m G.1 G.2 (0:Nat) [m]) k126_l2 (s126_l2 m G'.1 G'.2 m.globals.length [m]):=by
 have key:=Goes.shape (C:=C126) (U:=U126) (Rt:=R126 m) (k:=k126_l2) (fun (i:Nat) (G:List (Value×Int)×Int)=>s126_l2 m G.1 G.2 i [m]) m.globals.length (fun _=>True) (fun i G hi _=>⟨(oneM G.1 (m.globals.getD i (Global.mk ByteArray.empty [])).name,IntKind.i64.wrap (G.2+oneI G.1 (m.globals.getD i (Global.mk ByteArray.empty [])).name)),trivial, .step fun J=>by
  have w:IntKind.i64.wrap ((i:Int)+1)=((i+1:Nat):Int):=wrap_nat (by omega) (by omega)
  rw [e126_l2]
  simp only [List.getD_cons_zero,Int.toNat_natCast,w]
  simp (disch:=first|omega|assumption|(rw [dT];omega)|(rw [dF];omega)) only [↓iP,↓iN,iT,iF,wrap_up,tN,Nat.zero_add]⟩) m.globals.length 0 G (by omega) trivial
 obtain ⟨G',_,h⟩:=key
 exact ⟨G',h⟩
theorem Names.l4 (h:m.tables.length≤1000) (G:List (Value×Int)×Int): ∃G':List (Value×Int)×Int,Goes C126 U126 (R126 m) k126_l4 (s126_l4 m G.1 G.2 (0:Nat) [m]) k126_l4 (s126_l4 m G'.1 G'.2 m.tables.length [m]):=by
 have key:=Goes.shape (C:=C126) (U:=U126) (Rt:=R126 m) (k:=k126_l4) (fun (i:Nat) (G:List (Value×Int)×Int)=>s126_l4 m G.1 G.2 i [m]) m.tables.length (fun _=>True) (fun i G hi _=>⟨(oneM G.1 (m.tables.getD i (Table.mk ByteArray.empty [])).name,IntKind.i64.wrap (G.2+oneI G.1 (m.tables.getD i (Table.mk ByteArray.empty [])).name)),trivial, .step fun J=>by
  have w:IntKind.i64.wrap ((i:Int)+1)=((i+1:Nat):Int):=wrap_nat (by omega) (by omega)
  rw [e126_l4]
  simp only [List.getD_cons_zero,Int.toNat_natCast,w]
  simp (disch:=first|omega|assumption|(rw [dT];omega)|(rw [dF];omega)) only [↓iP,↓iN,iT,iF,wrap_up,tN,Nat.zero_add]⟩) m.tables.length 0 G (by omega) trivial
 obtain ⟨G',_,h⟩:=key
 exact ⟨G',h⟩
theorem Names.l6 (h:m.funcs.length≤1000) (G:List (Value×Int)×Int): ∃G':List (Value×Int)×Int,Goes C126 U126 (R126 m) k126_l6 (s126_l6 m G.1 G.2 (0:Nat) [m]) k126_l6 (s126_l6 m G'.1 G'.2 m.funcs.length [m]):=by
 have key:=Goes.shape (C:=C126) (U:=U126) (Rt:=R126 m) (k:=k126_l6) (fun (i:Nat) (G:List (Value×Int)×Int)=>s126_l6 m G.1 G.2 i [m]) m.funcs.length (fun _=>True) (fun i G hi _=>⟨(oneM G.1 (m.funcs.getD i (Func.mk ByteArray.empty false [] 0 [])).name,IntKind.i64.wrap (G.2+oneI G.1 (m.funcs.getD i (Func.mk ByteArray.empty false [] 0 [])).name)),trivial, .step fun J=>by
  have w:IntKind.i64.wrap ((i:Int)+1)=((i+1:Nat):Int):=wrap_nat (by omega) (by omega)
  rw [e126_l6]
  simp only [List.getD_cons_zero,Int.toNat_natCast,w]
  simp (disch:=first|omega|assumption|(rw [dT];omega)|(rw [dF];omega)) only [↓iP,↓iN,iT,iF,wrap_up,tN,Nat.zero_add]⟩) m.funcs.length 0 G (by omega) trivial
 obtain ⟨G',_,h⟩:=key
 exact ⟨G',h⟩
end
theorem names_ok (m:Ev.Module) (h:okM m): ∃b,Tells 126 (a126 m) [.dead] True b:=by
 obtain ⟨⟨h1,h2,h3,h4⟩,_⟩:=h
 obtain ⟨G1,g1⟩:=Names.l0 h1 ([],0)
 obtain ⟨G2,g2⟩:=Names.l2 h2 G1
 obtain ⟨G3,g3⟩:=Names.l4 h3 G2
 obtain ⟨G4,g4⟩:=Names.l6 h4 G3
 refine ⟨G4.2 == 0,fn126 m (Goes.ends (k':=k126_l0) (s':=s126_l0 m [] 0 (0:Nat) [m]) (.step fun J=>e126 ..) (g1.ends ?_)),fun _=>trivial⟩
 refine Goes.ends (k':=k126_l2) (s':=s126_l2 m G1.1 G1.2 (0:Nat) [m]) (.trans (k':=k126_j0) (s':=s126_j0 m G1.1 G1.2 [m]) (.step fun J=> ?_) (.step fun J=>e126_j0 ..)) (g2.ends ?_)
 ·rw [e126_l0]
  simp only [List.getD_cons_zero,Int.toNat_natCast]
  simp (disch:=first|omega|assumption|(rw [dT];omega)|(rw [dF];omega)) only [↓iP,↓iN,iT,iF,wrap_up,tN,Nat.zero_add]
 refine Goes.ends (k':=k126_l4) (s':=s126_l4 m G2.1 G2.2 (0:Nat) [m]) (.trans (k':=k126_j2) (s':=s126_j2 m G2.1 G2.2 [m]) (.step fun J=> ?_) (.step fun J=>e126_j2 ..)) (g3.ends ?_)
 ·rw [e126_l2]
  simp only [List.getD_cons_zero,Int.toNat_natCast]
  simp (disch:=first|omega|assumption|(rw [dT];omega)|(rw [dF];omega)) only [↓iP,↓iN,iT,iF,wrap_up,tN,Nat.zero_add]
 refine Goes.ends (k':=k126_l6) (s':=s126_l6 m G3.1 G3.2 (0:Nat) [m]) (.trans (k':=k126_j4) (s':=s126_j4 m G3.1 G3.2 [m]) (.step fun J=> ?_) (.step fun J=>e126_j4 ..)) (g4.ends ?_)
 ·rw [e126_l4]
  simp only [List.getD_cons_zero,Int.toNat_natCast]
  simp (disch:=first|omega|assumption|(rw [dT];omega)|(rw [dF];omega)) only [↓iP,↓iN,iT,iF,wrap_up,tN,Nat.zero_add]
 refine Goes.ends (k':=k126_j6) (s':=s126_j6 m G4.2) (.step fun J=> ?_) (.step fun J=>e126_j6 ..)
 rw [e126_l6]
 simp only [List.getD_cons_zero,Int.toNat_natCast]
 simp (disch:=first|omega|assumption|(rw [dT];omega)|(rw [dF];omega)) only [↓iP,↓iN,iT,iF,wrap_up,tN,Nat.zero_add]
end Go.Proofs.Ytggibjbcbicpjaa.Ev
namespace Go.Proofs.Ytggibjbcbicpjaa.Ev
open Go
set_option linter.unusedVariables false
set_option linter.unusedSimpArgs false
noncomputable def b151:Code:=bodyOf Try.f151
noncomputable def C151:Cfg Ty:=⟨fun
 |169=>some ([],S169)
 |_=>none,fun _=>false,5,0⟩
def U151:Cuts:=⟨fun _=>none,fun _=>none,fun _=>none⟩
def a151 (f:Func):List (AV Ty):=[.agg [.v (.string f.name), .v (.bool f.out), .sl false (3:Nat) f.params, .v (.int .i64 f.result), .sl false (44:Nat) f.blocks]]
noncomputable def R151 (f:Func):St Ty→EvR:=resT tb C151 Try.f151.results.toList (.fro 4) (a151 f)
theorem e151 (J f):run tb C151 U151 J (R151 f) 4096 [.code b151] ⟨slotsA (a151 f) 0 0,heapA (a151 f)⟩=
 if okF (Func.mk f.name f.out f.params f.result f.blocks) then
 some (.sl false 4 (fromL (Func.mk f.name f.out f.params f.result f.blocks) 0 (-1:Int)),[.dead])
 else none:=by kernel_rfl

theorem in151:Entered 151:=⟨Try.f151,b151,by kernel_rfl,by kernel_rfl,by kernel_rfl⟩
theorem fn151 (f:Ev.Func) {res:AV Ty} {outs:List (AV Ty)} (h:Ends C151 U151 (R151 f) [.code b151] ⟨slotsA (a151 f) 0 0,heapA (a151 f)⟩ (some (res,outs))):CallOk tb Try.prog 151 (a151 f) res outs:=by
 obtain ⟨n0,hn⟩:=h
 exact fn_ok (C:=C151) (U:=U151) (n:=0+n0) (q:=(.fro 4)) tbOk good (fun f mu S h=>by
  unfold C151 at h
  simp only at h
  split at h
  ·cases h;exact ⟨in169,S169_ok⟩
  ·cases h) mixed (fn:=Try.f151) (body:=b151) (by kernel_rfl) (by kernel_rfl) rfl rfl (by show 1≤5;omega) (hn 0)
noncomputable def reachL (f:Ev.Func):List Bool:=fromL f 0 (-1)
theorem reach_ok (f:Ev.Func) (h:okF f):CallOk tb Try.prog 151 (a151 f) (.sl false 4 (reachL f)) [.dead]:=by
 refine fn151 f (.step fun J=> ?_)
 rw [e151]
 exact if_pos h
noncomputable def S151:List (AV Ty)→T (AV Ty×List (AV Ty))
 |[.agg x]=>match cod33.dec false x with
  |some f=> .ite (okF f) (okF.dec f) (.ret (.sl false 4 (reachL f),[.dead])) .fail
  |none=> .fail
 |_=> .fail
theorem S151_ok (l:List (AV Ty)) (r:AV Ty) (outs:List (AV Ty)) (h:(S151 l).val=some (r,outs)):CallOk tb Try.prog 151 l r outs:=by
 unfold S151 at h
 split at h
 ·rename_i x
  split at h
  ·rename_i f e1
   rcases ite_val h with ⟨e,h⟩|⟨_,h⟩
   ·cases h
    have h1:=cod33_ok.dec false x f e1
    subst h1
    exact reach_ok f e
   ·cases h
  ·cases h
 ·cases h
abbrev rD4 (b:Bool):EvR:=some (.v (.bool b),[.dead, .dead, .dead, .dead])
def fitPre (m:Ev.Module) (i:Ev.Ins) (l:List Int):Prop:=FormQ i∧SymQ m i∧l.length=i.args.length∧l.length≤1000
noncomputable def b155:Code:=bodyOf Try.f155
noncomputable def C155:Cfg Ty:=⟨fun
 |29=>some ([],S29)
 |_=>none,fun _=>false,268,0⟩
def U155:Cuts:=⟨fun
 |0=>some []
 |1=>some []
 |_=>none,fun
 |1=>some [(3,none),(6,none),(9,none)]
 |_=>none,fun _=>none⟩
noncomputable def k155_j0:List Item:=[.code (sndC (sndC b155))]
noncomputable def k155_j1:List Item:=[.code (sndC (thenC (sndC (elseC (sndC (elseC (sndC (elseC (sndC (elseC (sndC (elseC (sndC (elseC (sndC (elseC (sndC (elseC (sndC (elseC (sndC (elseC (sndC (elseC (sndC (elseC (sndC (elseC (sndC (elseC (sndC (inC (sndC (fstC (sndC b155))))))))))))))))))))))))))))))))))), .inBlock 0, .code (sndC (sndC b155))]
noncomputable def k155_l1:List Item:=[.code (inC (inC (sndC (fstC (thenC (sndC (elseC (sndC (elseC (sndC (elseC (sndC (elseC (sndC (elseC (sndC (elseC (sndC (elseC (sndC (elseC (sndC (elseC (sndC (elseC (sndC (elseC (sndC (elseC (sndC (elseC (sndC (elseC (sndC (inC (sndC (fstC (sndC b155)))))))))))))))))))))))))))))))))))))), .inLoop (inC (inC (sndC (fstC (thenC (sndC (elseC (sndC (elseC (sndC (elseC (sndC (elseC (sndC (elseC (sndC (elseC (sndC (elseC (sndC (elseC (sndC (elseC (sndC (elseC (sndC (elseC (sndC (elseC (sndC (elseC (sndC (elseC (sndC (inC (sndC (fstC (sndC b155)))))))))))))))))))))))))))))))))))))), .inBlock 1, .code (sndC (thenC (sndC (elseC (sndC (elseC (sndC (elseC (sndC (elseC (sndC (elseC (sndC (elseC (sndC (elseC (sndC (elseC (sndC (elseC (sndC (elseC (sndC (elseC (sndC (elseC (sndC (elseC (sndC (elseC (sndC (inC (sndC (fstC (sndC b155))))))))))))))))))))))))))))))))))), .inBlock 0, .code (sndC (sndC b155))]
def a155 (m:Module) (f:Func) (i:Ins) (l:List Int):List (AV Ty):=[.agg [.sl false (91:Nat) m.externs, .sl false (94:Nat) m.globals, .sl false (96:Nat) m.tables, .sl false (33:Nat) m.funcs], .agg [.v (.string f.name), .v (.bool f.out), .sl false (3:Nat) f.params, .v (.int .i64 f.result), .sl false (44:Nat) f.blocks], .agg [.v (.int .i64 i.op), .v (.int .i64 i.type_), .v (.int .i64 i.to_), .v (.int .i64 i.sym_), .v (.int .i64 i.num), .sl false (3:Nat) i.args, .sl false (3:Nat) i.into], .sl false (3:Nat) l]
noncomputable def R155 (m:Module) (f:Func) (i:Ins) (l:List Int):St Ty→EvR:=resT tb C155 Try.f155.results.toList .keep (a155 m f i l)
def s155_l1 (m:Module) (f:Func) (i:Ins) (l:List Int) (v9:Int) (h0:List Ins):St Ty:=St.mk [(3, .sl false (3) l),(6, .ptr (0) [] (0) (0)),(9, .v (.int .i64 v9))] [some (Root.mk (46) false h0)]
def s155_j0 (m:Module) (f:Func) (i:Ins) (l:List Int):St Ty:=St.mk [] []
def s155_j1 (m:Module) (f:Func) (i:Ins) (l:List Int):St Ty:=St.mk [] []
theorem e155 (J m f i l):run tb C155 U155 J (R155 m f i l) 4096 [.code b155] ⟨slotsA (a155 m f i l) 0 0,heapA (a155 m f i l)⟩=
 if (i.op == 1)=true then
 if (i.type_ == 1)=false then
 if (i.type_ == 2)=true then
 if (i.num == 0)=false then
 some (.v (.bool (i.num == 1)),[.dead, .dead, .dead, .dead])
 else
 some (.v (.bool true),[.dead, .dead, .dead, .dead])
 else
 some (.v (.bool false),[.dead, .dead, .dead, .dead])
 else
 some (.v (.bool true),[.dead, .dead, .dead, .dead])
 else
 if (i.op == 2)=true then
 some (.v (.bool (i.type_ == 4)),[.dead, .dead, .dead, .dead])
 else
 if (i.op == 3)=true then
 some (.v (.bool (i.type_ == 3)),[.dead, .dead, .dead, .dead])
 else
 if (i.op == 18)=true then
 some (.v (.bool (i.type_ == 3)),[.dead, .dead, .dead, .dead])
 else
 if (i.op == 4)=true then
 if (i.type_ == 1)=true then
 if 0<(↑l.length:Int) then
 if (l.getD (Int.toNat 0) 0 == 1)=true then
 if 1<(↑l.length:Int) then
 some (.v (.bool (l.getD (Int.toNat 1) 0 == 1)),[.dead, .dead, .dead, .dead])
 else none
 else
 some (.v (.bool false),[.dead, .dead, .dead, .dead])
 else none
 else
 some (.v (.bool false),[.dead, .dead, .dead, .dead])
 else
 if (i.op == 5)=true then
 if (i.type_ == 1)=true then
 if 0<(↑l.length:Int) then
 if (l.getD (Int.toNat 0) 0 == 1)=true then
 if 1<(↑l.length:Int) then
 some (.v (.bool (l.getD (Int.toNat 1) 0 == 1)),[.dead, .dead, .dead, .dead])
 else none
 else
 some (.v (.bool false),[.dead, .dead, .dead, .dead])
 else none
 else
 some (.v (.bool false),[.dead, .dead, .dead, .dead])
 else
 if (i.op == 6)=true then
 if (i.type_ == 1)=true then
 if 0<(↑l.length:Int) then
 if (l.getD (Int.toNat 0) 0 == 1)=true then
 if 1<(↑l.length:Int) then
 some (.v (.bool (l.getD (Int.toNat 1) 0 == 1)),[.dead, .dead, .dead, .dead])
 else none
 else
 some (.v (.bool false),[.dead, .dead, .dead, .dead])
 else none
 else
 some (.v (.bool false),[.dead, .dead, .dead, .dead])
 else
 if (i.op == 7)=true then
 if (i.type_ == 1)=true then
 if 0<(↑l.length:Int) then
 if (l.getD (Int.toNat 0) 0 == 1)=true then
 if 1<(↑l.length:Int) then
 some (.v (.bool (l.getD (Int.toNat 1) 0 == 1)),[.dead, .dead, .dead, .dead])
 else none
 else
 some (.v (.bool false),[.dead, .dead, .dead, .dead])
 else none
 else
 some (.v (.bool false),[.dead, .dead, .dead, .dead])
 else
 if (i.op == 8)=true then
 if (i.type_ == 1)=true then
 if 0<(↑l.length:Int) then
 if (l.getD (Int.toNat 0) 0 == 1)=true then
 if 1<(↑l.length:Int) then
 some (.v (.bool (l.getD (Int.toNat 1) 0 == 1)),[.dead, .dead, .dead, .dead])
 else none
 else
 some (.v (.bool false),[.dead, .dead, .dead, .dead])
 else none
 else
 some (.v (.bool false),[.dead, .dead, .dead, .dead])
 else
 if (i.op == 9)=true then
 if (i.type_ == 1)=true then
 if 0<(↑l.length:Int) then
 if (l.getD (Int.toNat 0) 0 == 1)=true then
 if 1<(↑l.length:Int) then
 some (.v (.bool (l.getD (Int.toNat 1) 0 == 1)),[.dead, .dead, .dead, .dead])
 else none
 else
 some (.v (.bool false),[.dead, .dead, .dead, .dead])
 else none
 else
 some (.v (.bool false),[.dead, .dead, .dead, .dead])
 else
 if (i.op == 10)=true then
 if (i.type_ == 1)=true then
 if 0<(↑l.length:Int) then
 if (l.getD (Int.toNat 0) 0 == 1)=true then
 if 1<(↑l.length:Int) then
 some (.v (.bool (l.getD (Int.toNat 1) 0 == 1)),[.dead, .dead, .dead, .dead])
 else none
 else
 some (.v (.bool false),[.dead, .dead, .dead, .dead])
 else none
 else
 some (.v (.bool false),[.dead, .dead, .dead, .dead])
 else
 if (i.op == 11)=true then
 if (i.type_ == 1)=true then
 if 0<(↑l.length:Int) then
 if (l.getD (Int.toNat 0) 0 == 1)=true then
 if 1<(↑l.length:Int) then
 some (.v (.bool (l.getD (Int.toNat 1) 0 == 1)),[.dead, .dead, .dead, .dead])
 else none
 else
 some (.v (.bool false),[.dead, .dead, .dead, .dead])
 else none
 else
 some (.v (.bool false),[.dead, .dead, .dead, .dead])
 else
 if (i.op == 12)=true then
 if (i.type_ == 1)=true then
 if 0<(↑l.length:Int) then
 if (l.getD (Int.toNat 0) 0 == 1)=true then
 if 1<(↑l.length:Int) then
 some (.v (.bool (l.getD (Int.toNat 1) 0 == 1)),[.dead, .dead, .dead, .dead])
 else none
 else
 some (.v (.bool false),[.dead, .dead, .dead, .dead])
 else none
 else
 some (.v (.bool false),[.dead, .dead, .dead, .dead])
 else
 if (i.op == 13)=true then
 if (i.type_ == 1)=true then
 if 0<(↑l.length:Int) then
 if (l.getD (Int.toNat 0) 0 == 1)=true then
 if 1<(↑l.length:Int) then
 some (.v (.bool (l.getD (Int.toNat 1) 0 == 1)),[.dead, .dead, .dead, .dead])
 else none
 else
 some (.v (.bool false),[.dead, .dead, .dead, .dead])
 else none
 else
 some (.v (.bool false),[.dead, .dead, .dead, .dead])
 else
 if (i.op == 14)=true then
 if (i.type_ == 2)=true then
 if 0<(↑l.length:Int) then
 if (l.getD (Int.toNat 0) 0 == 1)=true then
 if 1<(↑l.length:Int) then
 some (.v (.bool (l.getD (Int.toNat 1) 0 == 1)),[.dead, .dead, .dead, .dead])
 else none
 else
 some (.v (.bool false),[.dead, .dead, .dead, .dead])
 else none
 else
 some (.v (.bool false),[.dead, .dead, .dead, .dead])
 else
 if (i.op == 15)=true then
 if (i.type_ == 2)=true then
 if 0<(↑l.length:Int) then
 if (l.getD (Int.toNat 0) 0 == 1)=true then
 if 1<(↑l.length:Int) then
 some (.v (.bool (l.getD (Int.toNat 1) 0 == 1)),[.dead, .dead, .dead, .dead])
 else none
 else
 some (.v (.bool false),[.dead, .dead, .dead, .dead])
 else none
 else
 some (.v (.bool false),[.dead, .dead, .dead, .dead])
 else
 if (i.op == 16)=true then
 if (i.type_ == 2)=true then
 if 0<(↑l.length:Int) then
 some (.v (.bool (l.getD (Int.toNat 0) 0 == 2)),[.dead, .dead, .dead, .dead])
 else none
 else
 some (.v (.bool false),[.dead, .dead, .dead, .dead])
 else
 if (i.op == 17)=true then
 if 0<(↑l.length:Int) then
 if (l.getD (Int.toNat 0) 0 == 2)=true then
 if 1<(↑l.length:Int) then
 if (l.getD (Int.toNat 1) 0 == i.type_)=true then
 if 2<(↑l.length:Int) then
 some (.v (.bool (l.getD (Int.toNat 2) 0 == i.type_)),[.dead, .dead, .dead, .dead])
 else none
 else
 some (.v (.bool false),[.dead, .dead, .dead, .dead])
 else none
 else
 some (.v (.bool false),[.dead, .dead, .dead, .dead])
 else none
 else
 if (i.op == 19)=true then
 if (i.type_ == 3)=true then
 if 0<(↑l.length:Int) then
 if (l.getD (Int.toNat 0) 0 == 3)=true then
 if 1<(↑l.length:Int) then
 some (.v (.bool (l.getD (Int.toNat 1) 0 == 1)),[.dead, .dead, .dead, .dead])
 else none
 else
 some (.v (.bool false),[.dead, .dead, .dead, .dead])
 else none
 else
 some (.v (.bool false),[.dead, .dead, .dead, .dead])
 else
 if (i.op == 20)=true then
 if (i.type_ == 1)=true then
 if 0<(↑l.length:Int) then
 some (.v (.bool (l.getD (Int.toNat 0) 0 == 3)),[.dead, .dead, .dead, .dead])
 else none
 else
 some (.v (.bool false),[.dead, .dead, .dead, .dead])
 else
 if (i.op == 21)=true then
 if 0<(↑l.length:Int) then
 if (l.getD (Int.toNat 0) 0 == 3)=true then
 if 1<(↑l.length:Int) then
 some (.v (.bool (l.getD (Int.toNat 1) 0 == 1)),[.dead, .dead, .dead, .dead])
 else none
 else
 some (.v (.bool false),[.dead, .dead, .dead, .dead])
 else none
 else
 if (i.op == 22)=true then
 if 0≤i.sym_ then
 if i.sym_<(↑m.funcs.length:Int) then
 if l.length≤4611686018427387904 then
 if same3 l (m.funcs.getD i.sym_.toNat (Func.mk ByteArray.empty false [] 0 [])).params=true then
 if 0≤i.sym_ then
 if i.sym_<(↑m.funcs.length:Int) then
 some (.v (.bool (i.type_ == (m.funcs.getD i.sym_.toNat (Func.mk ByteArray.empty false [] 0 [])).result)),[.dead, .dead, .dead, .dead])
 else none
 else none
 else
 some (.v (.bool false),[.dead, .dead, .dead, .dead])
 else none
 else none
 else none
 else
 if (i.op == 23)=true then
 if 0≤i.sym_ then
 if i.sym_<(↑m.externs.length:Int) then
 if l.length≤4611686018427387904 then
 if same3 l (m.externs.getD i.sym_.toNat (Extern.mk ByteArray.empty [] 0)).params=true then
 if 0≤i.sym_ then
 if i.sym_<(↑m.externs.length:Int) then
 some (.v (.bool (i.type_ == (m.externs.getD i.sym_.toNat (Extern.mk ByteArray.empty [] 0)).result)),[.dead, .dead, .dead, .dead])
 else none
 else none
 else
 some (.v (.bool false),[.dead, .dead, .dead, .dead])
 else none
 else none
 else none
 else
 if (i.op == 24)=true then
 if (i.type_ == 4)=true then
 if 0<(↑l.length:Int) then
 some (.v (.bool (l.getD (Int.toNat 0) 0 == 1)),[.dead, .dead, .dead, .dead])
 else none
 else
 some (.v (.bool false),[.dead, .dead, .dead, .dead])
 else
 if (i.op == 25)=true then
 if 0<(↑l.length:Int) then
 if (l.getD (Int.toNat 0) 0 == 4)=true then
 some (.v (.bool (i.type_ != 3)),[.dead, .dead, .dead, .dead])
 else
 some (.v (.bool false),[.dead, .dead, .dead, .dead])
 else none
 else
 if (i.op == 26)=true then
 J k155_l1 (s155_l1 m f i l 0 ([Ins.mk i.op i.type_ i.to_ i.sym_ i.num i.args i.into]))
 else
 if (i.op == 28)=true then
 if 0<(↑l.length:Int) then
 some (.v (.bool (l.getD (Int.toNat 0) 0 == 2)),[.dead, .dead, .dead, .dead])
 else none
 else
 if (i.op == 29)=true then
 if (f.result == 0)=true then
 some (.v (.bool ((↑l.length:Int) == 0)),[.dead, .dead, .dead, .dead])
 else
 if ((↑l.length:Int) == 1)=true then
 if 0<(↑l.length:Int) then
 some (.v (.bool (l.getD (Int.toNat 0) 0 == f.result)),[.dead, .dead, .dead, .dead])
 else none
 else
 some (.v (.bool false),[.dead, .dead, .dead, .dead])
 else
 J k155_j0 (s155_j0 m f i l):=by kernel_rfl
theorem e155_l1 (J m f i l v9 h0):run tb C155 U155 J (R155 m f i l) 4096 k155_l1 (s155_l1 m f i l v9 h0)=
 if decide (v9<(↑l.length:Int))=true then
 if 0≤v9 then
 if v9<(↑l.length:Int) then
 if (l.getD v9.toNat 0 != (h0.getD (0) (Ins.mk 0 0 0 0 0 [] [])).type_)=true then
 some (.v (.bool false),[.dead, .dead, .dead, .dead])
 else
 J k155_l1 (s155_l1 m f i l (IntKind.i64.wrap (v9+1)) h0)
 else none
 else none
 else
 J k155_j1 (s155_j1 m f i l):=by kernel_rfl
theorem e155_j0 (J m f i l):run tb C155 U155 J (R155 m f i l) 4096 k155_j0 (s155_j0 m f i l)=
 some (.v (.bool true),[.dead, .dead, .dead, .dead]):=by kernel_rfl
theorem e155_j1 (J m f i l):run tb C155 U155 J (R155 m f i l) 4096 k155_j1 (s155_j1 m f i l)=
 some (.v (.bool true),[.dead, .dead, .dead, .dead]):=by kernel_rfl

theorem in155:Entered 155:=⟨Try.f155,b155,by kernel_rfl,by kernel_rfl,by kernel_rfl⟩
theorem fn155 (m:Ev.Module) (f:Ev.Func) (i:Ev.Ins) (l:List Int) {res:AV Ty} {outs:List (AV Ty)} (h:Ends C155 U155 (R155 m f i l) [.code b155] ⟨slotsA (a155 m f i l) 0 0,heapA (a155 m f i l)⟩ (some (res,outs))):CallOk tb Try.prog 155 (a155 m f i l) res outs:=by
 obtain ⟨n0,hn⟩:=h
 exact fn_ok (C:=C155) (U:=U155) (n:=0+n0) (q:= .keep) tbOk good (fun f mu S h=>by
  unfold C155 at h
  simp only at h
  split at h
  ·cases h;exact ⟨in29,S29_ok⟩
  ·cases h) mixed (fn:=Try.f155) (body:=b155) (by kernel_rfl) (by kernel_rfl) rfl rfl (by show 4≤268;omega) (hn 0)
section
variable {m:Ev.Module} {f:Ev.Func} {i:Ev.Ins} {l:List Int}
theorem Fits.phi (h:l.length≤1000):Says C155 U155 (R155 m f i l) rD4 k155_l1 (s155_l1 m f i l (0:Nat) [i]) True:=by
 refine (Way.says (Q':=True) (Way.upto (fun j=>s155_l1 m f i l j [i]) l.length (fun _=>True) (fun j hj _=> ?_) _ (Nat.le_refl _)) fun _=> ?_).mono fun _=>trivial
 ·refine Way.of (fun J=>e155_l1 J m f i l j [i]) ?_
  have w:IntKind.i64.wrap ((j:Int)+1)=((j+1:Nat):Int):=wrap_nat (by omega) (by omega)
  simp only [List.getD_cons_zero,Int.toNat_natCast,w]
  repeat' first|refine tree_qt (fun _=> ?_) (fun _=> ?_)|refine tree_qf (fun _=> ?_) (fun _=> ?_)|refine tree_nt (fun _=> ?_) (fun _=> ?_)|refine tree_nf (fun _=> ?_) (fun _=> ?_)|refine tree_et (fun _=> ?_) (fun _=> ?_)|refine tree_ef (fun _=> ?_) (fun _=> ?_)|refine tree_dt (fun _=> ?_) (fun _=> ?_)|refine tree_df (fun _=> ?_) (fun _=> ?_)|refine tree_bt (fun _=> ?_) (fun _=> ?_)|refine tree_bf (fun _=> ?_) (fun _=> ?_)|refine tree_ite (fun _=> ?_) (fun _=> ?_)
  all_goals first|exact WayT.no (fun J=>rfl)|exact WayT.yes (fun J=>rfl) (trivial)|(exfalso;omega)
 refine Goes.says (k':=k155_j1) (s':=s155_j1 m f i l) (.step fun J=> ?_) (.yes (.step fun J=>e155_j1 ..) trivial)
 rw [e155_l1]
 simp only [List.getD_cons_zero,Int.toNat_natCast]
 simp (disch:=first|omega|assumption|(rw [dT];omega)|(rw [dF];omega)) only [↓iP,↓iN,iT,iF,wrap_up,tN,Nat.zero_add]
set_option maxHeartbeats 4000000 in
theorem fits_says (h:fitPre m i l):Says C155 U155 (R155 m f i l) rD4 [.code b155] ⟨slotsA (a155 m f i l) 0 0,heapA (a155 m f i l)⟩ True:=by
 obtain ⟨⟨⟨_,_,_,_,q1,_,_,q2⟩,_⟩,⟨y0,y1,y2,y3,y4,y5⟩,hl,hb⟩:=h
 have k2:(4≤i.op∧i.op≤15)∨i.op=19∨i.op=21→l.length=2:=fun e=>by
  have:markA i.op=2:=by
   unfold markA mark
   rw [if_neg (by omega),if_neg (by omega),if_pos (by omega)]
  omega
 have k1:i.op=16∨i.op=20∨i.op=24∨i.op=28→l.length=1:=fun e=>by
  have:markA i.op=1:=by rcases e with e|e|e|e<;>rw [e]<;>rfl
  omega
 have k3:i.op=17→l.length=3:=fun e=>by
  have:markA i.op=3:=by rw [e];rfl
  omega
 clear q1
 refine Says.of (fun J=>e155 J m f i l) ?_
 repeat' first|refine tree_qt (fun _=> ?_) (fun _=> ?_)|refine tree_qf (fun _=> ?_) (fun _=> ?_)|refine tree_nt (fun _=> ?_) (fun _=> ?_)|refine tree_nf (fun _=> ?_) (fun _=> ?_)|refine tree_et (fun _=> ?_) (fun _=> ?_)|refine tree_ef (fun _=> ?_) (fun _=> ?_)|refine tree_dt (fun _=> ?_) (fun _=> ?_)|refine tree_df (fun _=> ?_) (fun _=> ?_)|refine tree_bt (fun _=> ?_) (fun _=> ?_)|refine tree_bf (fun _=> ?_) (fun _=> ?_)|refine tree_ite (fun _=> ?_) (fun _=> ?_)
 all_goals first|exact .inl ⟨_,fun J=>rfl,fun _=>trivial⟩|exact SaysF.go (fun J=>rfl) (Fits.phi hb)|exact SaysF.go (fun J=>rfl) (.yes (.step fun J=>e155_j0 ..) trivial)|(exfalso;omega)
theorem fits_ok (h:fitPre m i l): ∃b,Tells 155 (a155 m f i l) [.dead, .dead, .dead, .dead] True b:=by
 obtain ⟨b,h,_⟩:=fits_says (f:=f) h
 exact ⟨b,fn155 m f i l h,fun _=>trivial⟩
end
noncomputable def fitsB (m:Ev.Module) (f:Ev.Func) (i:Ev.Ins) (l:List Int):Bool:=told 155 (a155 m f i l) [.dead, .dead, .dead, .dead] True
noncomputable def S155:List (AV Ty)→T (AV Ty×List (AV Ty))
 |[.agg x, .agg y, .agg z, .sl false 3 l]=>match cod27.dec false x,cod33.dec false y,cod46.dec false z with
  |some m,some f,some i=> .ite (fitPre m i l) (Classical.propDecidable _) (.ret (.v (.bool (fitsB m f i l)),[.dead, .dead, .dead, .dead])) .fail
  |_,_,_=> .fail
 |_=> .fail
theorem S155_ok (l:List (AV Ty)) (r:AV Ty) (outs:List (AV Ty)) (h:(S155 l).val=some (r,outs)):CallOk tb Try.prog 155 l r outs:=by
 unfold S155 at h
 split at h
 ·rename_i x y z l
  split at h
  ·rename_i m f i e1 e2 e3
   rcases ite_val h with ⟨e,h⟩|⟨_,h⟩
   ·cases h
    have h1:=cod27_ok.dec false x m e1
    have h2:=cod33_ok.dec false y f e2
    have h3:=cod46_ok.dec false z i e3
    subst h1 h2 h3
    exact (told_ok (fits_ok e)).1
   ·cases h
  ·cases h
 ·cases h
end Go.Proofs.Ytggibjbcbicpjaa.Ev
namespace Go.Proofs.Ytggibjbcbicpjaa.Ev
open Go
set_option linter.unusedVariables false
set_option linter.unusedSimpArgs false
section
variable {C:Cfg Ty} {U:Cuts} {Rt:St Ty→EvR} {k:List Item}
theorem Goes.shapeI {α:Type} (st:Nat→α→St Ty) (N:Nat) (P:Nat→α→Prop) (h: ∀i G,i<N→P i G→ ∃G',P (i+1) G'∧Goes C U Rt k (st i G) k (st (i+1) G')) (G:α) (h0:P 0 G):
  ∀i,i≤N→ ∃G',P i G'∧Goes C U Rt k (st 0 G) k (st i G')
 |0,_=>⟨G,h0, .refl⟩
 |i+1,hi=>by
  obtain ⟨G1,h1,g1⟩:=Goes.shapeI st N P h G h0 i (by omega)
  obtain ⟨G2,h2,g2⟩:=h i G1 (by omega) h1
  exact ⟨G2,h2,g1.trans g2⟩
end
def DomP (N a:Nat) (G:List (List Bool)):Prop:=G.length=N∧ ∀j,j<a→(G.getD j []).length=N
theorem DomP.set {N a b:Nat} {G:List (List Bool)} {x:List Bool} (h:DomP N a G) (hb:b<N) (hx:x.length=N) (hab:b≤a):DomP N (max a (b+1)) (G.set b x):=by
 refine ⟨by rw [List.length_set];exact h.1,fun j hj=> ?_⟩
 have hl:=h.1
 by_cases e:b=j
 ·subst e
  simp [List.getD,List.getElem?_set,show b<G.length by omega,hx]
 ·have:=h.2 j (by omega)
  simpa [List.getD,List.getElem?_set,e] using this
noncomputable def b154:Code:=bodyOf Try.f154
noncomputable def C154:Cfg Ty:=⟨fun
 |169=>some ([],S169)
 |151=>some ([],S151)
 |_=>none,fun
 |11=>true
 |24=>true
 |_=>false,63,0⟩
def U154:Cuts:=⟨fun
 |0=>some [(3,none)]
 |1=>some [(1,none),(3,none),(4,none),(5,none)]
 |2=>some [(1,none),(3,none),(4,none),(5,none)]
 |_=>none,fun
 |0=>some [(1,none),(3,none),(4,none),(5,none)]
 |2=>some [(1,none),(3,none),(4,none),(5,none),(6,none),(7,none)]
 |_=>none,fun _=>none⟩
noncomputable def k154_j0:List Item:=[.code (sndC (sndC (sndC (sndC b154))))]
noncomputable def k154_l0:List Item:=[.code (inC (inC (sndC (fstC (sndC (sndC (sndC b154))))))), .inLoop (inC (inC (sndC (fstC (sndC (sndC (sndC b154))))))), .inBlock 0, .code (sndC (sndC (sndC (sndC b154))))]
noncomputable def k154_j1:List Item:=[.code (sndC (sndC (inC (inC (sndC (fstC (sndC (sndC (sndC b154))))))))), .inLoop (inC (inC (sndC (fstC (sndC (sndC (sndC b154))))))), .inBlock 0, .code (sndC (sndC (sndC (sndC b154))))]
noncomputable def k154_j2:List Item:=[.inBlock 1, .code (sndC (sndC (inC (inC (sndC (fstC (sndC (sndC (sndC b154))))))))), .inLoop (inC (inC (sndC (fstC (sndC (sndC (sndC b154))))))), .inBlock 0, .code (sndC (sndC (sndC (sndC b154))))]
noncomputable def k154_l2:List Item:=[.code (inC (inC (sndC (sndC (sndC (sndC (inC (fstC (sndC (inC (inC (sndC (fstC (sndC (sndC (sndC b154)))))))))))))))), .inLoop (inC (inC (sndC (sndC (sndC (sndC (inC (fstC (sndC (inC (inC (sndC (fstC (sndC (sndC (sndC b154)))))))))))))))), .inBlock 2, .inBlock 1, .code (sndC (sndC (inC (inC (sndC (fstC (sndC (sndC (sndC b154))))))))), .inLoop (inC (inC (sndC (fstC (sndC (sndC (sndC b154))))))), .inBlock 0, .code (sndC (sndC (sndC (sndC b154))))]
def a154 (f:Func):List (AV Ty):=[.agg [.v (.string f.name), .v (.bool f.out), .sl false (3:Nat) f.params, .v (.int .i64 f.result), .sl false (44:Nat) f.blocks]]
noncomputable def R154 (f:Func):St Ty→EvR:=resT tb C154 Try.f154.results.toList (.fro 71) (a154 f)
def s154_l0 (f:Func) (v4:List Bool) (v5:Int) (h0:List Func) (h1:List (List Bool)):St Ty:=St.mk [(1, .ptr (0) [] (0) (0)),(3, .ref (1) [] none false),(4, .sl false (4) v4),(5, .v (.int .i64 v5))] [some (Root.mk (33) false h0),some (Root.mk (71) true h1)]
def s154_j1 (f:Func) (v4:List Bool) (v5:Int) (h0:List Func) (h1:List (List Bool)):St Ty:=St.mk [(1, .ptr (0) [] (0) (0)),(3, .ref (1) [] none false),(4, .sl false (4) v4),(5, .v (.int .i64 v5))] [some (Root.mk (33) false h0),some (Root.mk (71) true h1)]
def s154_l2 (f:Func) (v4:List Bool) (v5:Int) (v6:List Bool) (v7:Int) (h0:List Func) (h1:List (List Bool)):St Ty:=St.mk [(1, .ptr (0) [] (0) (0)),(3, .ref (1) [] none false),(4, .sl false (4) v4),(5, .v (.int .i64 v5)),(6, .sl false (4) v6),(7, .v (.int .i64 v7))] [some (Root.mk (33) false h0),some (Root.mk (71) true h1)]
def s154_j0 (f:Func) (h0:List (List Bool)):St Ty:=St.mk [(3, .ref (0) [] none false)] [some (Root.mk (71) true h0)]
def s154_j2 (f:Func) (v4:List Bool) (v5:Int) (h0:List Func) (h1:List (List Bool)):St Ty:=St.mk [(1, .ptr (0) [] (0) (0)),(3, .ref (1) [] none false),(4, .sl false (4) v4),(5, .v (.int .i64 v5))] [some (Root.mk (33) false h0),some (Root.mk (71) true h1)]
theorem e154 (J f):run tb C154 U154 J (R154 f) 4096 [.code b154] ⟨slotsA (a154 f) 0 0,heapA (a154 f)⟩=
 if 0≤(↑f.blocks.length:Int)∧(↑f.blocks.length:Int)≤(↑f.blocks.length:Int)∧(↑f.blocks.length:Int)≤1099511627776∧(↑f.blocks.length:Int)*(↑24:Int)≤1099511627776 then
 if okF (Func.mk f.name f.out f.params f.result f.blocks) then
 J k154_l0 (s154_l0 f (reachL (Func.mk f.name f.out f.params f.result f.blocks)) 0 ([Func.mk f.name f.out f.params f.result f.blocks]) (List.replicate (↑f.blocks.length:Int).toNat []))
 else none
 else none:=by kernel_rfl
theorem e154_l0 (J f v4 v5 h0 h1):run tb C154 U154 J (R154 f) 4096 k154_l0 (s154_l0 f v4 v5 h0 h1)=
 if decide (v5<(↑h1.length:Int))=true then
 if 0≤(↑v4.length:Int)∧(↑v4.length:Int)≤(↑v4.length:Int)∧(↑v4.length:Int)≤1099511627776∧(↑v4.length:Int)*(↑1:Int)≤1099511627776 then
 if 0≤v5 then
 if v5<(↑h1.length:Int) then
 if 0≤v5 then
 if v5<(↑v4.length:Int) then
 if (!v4.getD v5.toNat false)=true then
 J k154_j1 (s154_j1 f v4 v5 h0 (h1.set (0+v5.toNat) (List.replicate (↑v4.length:Int).toNat false)))
 else
 if okF (Func.mk (h0.getD (0) (Func.mk ByteArray.empty false [] 0 [])).name (h0.getD (0) (Func.mk ByteArray.empty false [] 0 [])).out (h0.getD (0) (Func.mk ByteArray.empty false [] 0 [])).params (h0.getD (0) (Func.mk ByteArray.empty false [] 0 [])).result (h0.getD (0) (Func.mk ByteArray.empty false [] 0 [])).blocks) then
 J k154_l2 (s154_l2 f v4 v5 (fromL (Func.mk (h0.getD (0) (Func.mk ByteArray.empty false [] 0 [])).name (h0.getD (0) (Func.mk ByteArray.empty false [] 0 [])).out (h0.getD (0) (Func.mk ByteArray.empty false [] 0 [])).params (h0.getD (0) (Func.mk ByteArray.empty false [] 0 [])).result (h0.getD (0) (Func.mk ByteArray.empty false [] 0 [])).blocks) 0 v5) 0 h0 (h1.set (0+v5.toNat) (List.replicate (↑v4.length:Int).toNat false)))
 else none
 else none
 else none
 else none
 else none
 else none
 else
 J k154_j0 (s154_j0 f h1):=by kernel_rfl
theorem e154_j1 (J f v4 v5 h0 h1):run tb C154 U154 J (R154 f) 4096 k154_j1 (s154_j1 f v4 v5 h0 h1)=
 J k154_l0 (s154_l0 f v4 (IntKind.i64.wrap (v5+1)) h0 h1):=by kernel_rfl
theorem e154_l2 (J f v4 v5 v6 v7 h0 h1):run tb C154 U154 J (R154 f) 4096 k154_l2 (s154_l2 f v4 v5 v6 v7 h0 h1)=
 if decide (v7<(↑v4.length:Int))=true then
 if 0≤v5 then
 if v5<(↑h1.length:Int) then
 if 0≤v7 then
 if v7<(↑v4.length:Int) then
 if v4.getD v7.toNat false=true then
 if (v5 == v7)=false then
 if 0≤v7 then
 if v7<(↑v6.length:Int) then
 if 0≤v7 then
 if v7<(↑(List.length (h1.getD (0+v5.toNat) [])):Int) then
 J k154_l2 (s154_l2 f v4 v5 v6 (IntKind.i64.wrap (v7+1)) h0 (h1.set (0+v5.toNat) (List.set (h1.getD (0+v5.toNat) []) (0+v7.toNat) !v6.getD v7.toNat false)))
 else none
 else none
 else none
 else none
 else
 if 0≤v7 then
 if v7<(↑(List.length (h1.getD (0+v5.toNat) [])):Int) then
 J k154_l2 (s154_l2 f v4 v5 v6 (IntKind.i64.wrap (v7+1)) h0 (h1.set (0+v5.toNat) (List.set (h1.getD (0+v5.toNat) []) (0+v7.toNat) true)))
 else none
 else none
 else
 if 0≤v7 then
 if v7<(↑(List.length (h1.getD (0+v5.toNat) [])):Int) then
 J k154_l2 (s154_l2 f v4 v5 v6 (IntKind.i64.wrap (v7+1)) h0 (h1.set (0+v5.toNat) (List.set (h1.getD (0+v5.toNat) []) (0+v7.toNat) false)))
 else none
 else none
 else none
 else none
 else none
 else none
 else
 J k154_j2 (s154_j2 f v4 v5 h0 h1):=by kernel_rfl
theorem e154_j0 (J f h0):run tb C154 U154 J (R154 f) 4096 k154_j0 (s154_j0 f h0)=
 some (.sl false (71) h0,[.dead]):=by kernel_rfl
theorem e154_j2 (J f v4 v5 h0 h1):run tb C154 U154 J (R154 f) 4096 k154_j2 (s154_j2 f v4 v5 h0 h1)=
 J k154_j1 (s154_j1 f v4 v5 h0 h1):=by kernel_rfl

theorem in154:Entered 154:=⟨Try.f154,b154,by kernel_rfl,by kernel_rfl,by kernel_rfl⟩
theorem fn154 (f:Ev.Func) {res:AV Ty} {outs:List (AV Ty)} (h:Ends C154 U154 (R154 f) [.code b154] ⟨slotsA (a154 f) 0 0,heapA (a154 f)⟩ (some (res,outs))):CallOk tb Try.prog 154 (a154 f) res outs:=by
 obtain ⟨n0,hn⟩:=h
 exact fn_ok (C:=C154) (U:=U154) (n:=0+n0) (q:=(.fro 71)) tbOk good (fun f mu S h=>by
  unfold C154 at h
  simp only at h
  split at h
  ·cases h;exact ⟨in169,S169_ok⟩
  ·cases h;exact ⟨in151,S151_ok⟩
  ·cases h) mixed (fn:=Try.f154) (body:=b154) (by kernel_rfl) (by kernel_rfl) rfl rfl (by show 1≤63;omega) (hn 0)
section
variable {f:Ev.Func}
theorem Doms.in (hf:okF f) {a i:Nat} (ha:a<f.blocks.length) (hi:i<f.blocks.length) {r w:List Bool} (hr:r.length=f.blocks.length) (hw:w.length=f.blocks.length) {G:List (List Bool)} (hG:DomP f.blocks.length (a+1) G): ∃G',DomP f.blocks.length (a+1) G'∧Goes C154 U154 (R154 f) k154_l2 (s154_l2 f r a w i [f] G) k154_l2 (s154_l2 f r a w (i+1:Nat) [f] G'):=by
 have h0:=hf.2.1
 have ww:IntKind.i64.wrap ((i:Int)+1)=((i+1:Nat):Int):=wrap_nat (by omega) (by omega)
 have hl:=hG.1
 have hrow:=hG.2 a (by omega)
 have hset: ∀v:Bool,DomP f.blocks.length (a+1) (G.set a ((G.getD a []).set i v)):=fun v=>by
  have:=hG.set (b:=a) (x:=(G.getD a []).set i v) ha (by rw [List.length_set];exact hrow) (by omega)
  rwa [Nat.max_self] at this
 cases h1:r.getD i false with
 |false=>
  refine ⟨_,hset false, .step fun J=> ?_⟩
  rw [e154_l2]
  simp only [Int.toNat_natCast,ww,Nat.zero_add,h1]
  simp (disch:=first|omega|assumption|(rw [dT];omega)|(rw [dF];omega)) only [↓iP,↓iN,iT,iF,wrap_up,tN,Nat.zero_add,Bool.false_eq_true]
 |true=>
  by_cases h2:a=i
  ·have h3:((a:Int) == (i:Int))=true:=by rw [h2];exact beq_self_eq_true _
   refine ⟨_,hset true, .step fun J=> ?_⟩
   rw [e154_l2]
   simp only [Int.toNat_natCast,ww,Nat.zero_add,h1,h3]
   simp (disch:=first|omega|assumption|(rw [dT];omega)|(rw [dF];omega)) only [↓iP,↓iN,iT,iF,wrap_up,tN,Nat.zero_add,Bool.true_eq_false]
  ·have h3:((a:Int) == (i:Int))=false:=by rw [beq_eq_false_iff_ne];omega
   refine ⟨_,hset (!w.getD i false), .step fun J=> ?_⟩
   rw [e154_l2]
   simp only [Int.toNat_natCast,ww,Nat.zero_add,h1,h3]
   simp (disch:=first|omega|assumption|(rw [dT];omega)|(rw [dF];omega)) only [↓iP,↓iN,iT,iF,wrap_up,tN,Nat.zero_add]
theorem Doms.row (hf:okF f) {a:Nat} (ha:a<f.blocks.length) {G:List (List Bool)} (hG:DomP f.blocks.length a G): ∃G',DomP f.blocks.length (a+1) G'∧Goes C154 U154 (R154 f) k154_l0 (s154_l0 f (reachL f) a [f] G) k154_l0 (s154_l0 f (reachL f) (a+1:Nat) [f] G'):=by
 have h0:=hf.2.1
 have ww:IntKind.i64.wrap ((a:Int)+1)=((a+1:Nat):Int):=wrap_nat (by omega) (by omega)
 have e0:(Func.mk f.name f.out f.params f.result f.blocks)=f:=rfl
 have hr:(reachL f).length=f.blocks.length:=(fromL_ok hf 0 (-1)).1
 have hl:=hG.1
 have hset:DomP f.blocks.length (a+1) (G.set a (List.replicate f.blocks.length false)):=by
  have:=hG.set (b:=a) (x:=List.replicate f.blocks.length false) ha List.length_replicate (Nat.le_refl _)
  rwa [Nat.max_eq_right (Nat.le_succ a)] at this
 have c1:0≤(f.blocks.length:Int)∧(f.blocks.length:Int)≤(f.blocks.length:Int)∧(f.blocks.length:Int)≤1099511627776∧(f.blocks.length:Int)*((1:Nat):Int)≤1099511627776:=by omega
 have back: ∀G',Goes C154 U154 (R154 f) k154_j1 (s154_j1 f (reachL f) a [f] G') k154_l0 (s154_l0 f (reachL f) (a+1:Nat) [f] G'):=fun G'=> .step fun J=>by rw [e154_j1,ww]
 cases h1:(reachL f).getD a false with
 |false=>
  refine ⟨_,hset, .trans (.step fun J=> ?_) (back _)⟩
  rw [e154_l0]
  simp only [Int.toNat_natCast,Nat.zero_add,h1,hr]
  simp (disch:=first|omega|assumption|(rw [dT];omega)|(rw [dF];omega)) only [↓iP,↓iN,iT,iF,wrap_up,tN,Nat.zero_add,c1,and_self,Bool.not_false]
 |true=>
  obtain ⟨G',g1,g2⟩:=Goes.shapeI (C:=C154) (U:=U154) (Rt:=R154 f) (k:=k154_l2) (fun (i:Nat) (G:List (List Bool))=>s154_l2 f (reachL f) a (fromL f 0 a) i [f] G) f.blocks.length (fun _=>DomP f.blocks.length (a+1)) (fun i G hi hP=>Doms.in hf ha hi hr (fromL_ok hf 0 a).1 hP) _ hset _ (Nat.le_refl _)
  refine ⟨G',g1, .trans (.step fun J=> ?_) (g2.trans (.trans (k':=k154_j2) (s':=s154_j2 f (reachL f) a [f] G') (.step fun J=> ?_) (.trans (.step fun J=>e154_j2 ..) (back _))))⟩
  ·rw [e154_l0]
   simp only [Int.toNat_natCast,Nat.zero_add,h1,hr,List.getD_cons_zero]
   rw [e0]
   simp (disch:=first|omega|assumption|(rw [dT];omega)|(rw [dF];omega)) only [↓iP,↓iN,iT,iF,wrap_up,tN,Nat.zero_add,c1,and_self,hf,Bool.not_true,Bool.false_eq_true]
   rfl
  ·rw [e154_l2]
   simp only [Int.toNat_natCast,Nat.zero_add,hr]
   simp (disch:=first|omega|assumption|(rw [dT];omega)|(rw [dF];omega)) only [↓iP,↓iN,iT,iF,wrap_up,tN,Nat.zero_add]
theorem doms_ex (f:Ev.Func) (hf:okF f): ∃l:List (List Bool),DomP f.blocks.length f.blocks.length l∧CallOk tb Try.prog 154 (a154 f) (.sl false 71 l) [.dead]:=by
 have h0:=hf.2.1
 have e0:(Func.mk f.name f.out f.params f.result f.blocks)=f:=rfl
 have c1:0≤(f.blocks.length:Int)∧(f.blocks.length:Int)≤(f.blocks.length:Int)∧(f.blocks.length:Int)≤1099511627776∧(f.blocks.length:Int)*((24:Nat):Int)≤1099511627776:=by omega
 obtain ⟨G',g1,g2⟩:=Goes.shapeI (C:=C154) (U:=U154) (Rt:=R154 f) (k:=k154_l0) (fun (i:Nat) (G:List (List Bool))=>s154_l0 f (reachL f) i [f] G) f.blocks.length (DomP f.blocks.length) (fun i G hi hP=>Doms.row hf hi hP) (List.replicate f.blocks.length []) ⟨List.length_replicate,fun j hj=>absurd hj (Nat.not_lt_zero _)⟩ _ (Nat.le_refl _)
 refine ⟨G',g1,fn154 f (Goes.ends (.step fun J=> ?_) (g2.ends (Goes.ends (k':=k154_j0) (s':=s154_j0 f G') (.step fun J=> ?_) (.step fun J=>e154_j0 ..))))⟩
 ·rw [e154,e0]
  simp (disch:=first|omega|assumption|(rw [dT];omega)|(rw [dF];omega)) only [↓iP,↓iN,iT,iF,wrap_up,tN,Nat.zero_add,c1,and_self,hf]
  rfl
 ·have hl:=g1.1
  rw [e154_l0]
  simp (disch:=first|omega|assumption|(rw [dT];omega)|(rw [dF];omega)) only [↓iP,↓iN,iT,iF,wrap_up,tN,Nat.zero_add]
end
noncomputable def domsL (f:Ev.Func):List (List Bool):=if h:okF f then Classical.choose (doms_ex f h) else []
theorem domsL_ok (f:Ev.Func) (h:okF f):DomP f.blocks.length f.blocks.length (domsL f)∧CallOk tb Try.prog 154 (a154 f) (.sl false 71 (domsL f)) [.dead]:=by
 unfold domsL
 rw [dif_pos h]
 exact Classical.choose_spec (doms_ex f h)
theorem doms_ok (f:Ev.Func) (h:okF f):CallOk tb Try.prog 154 (a154 f) (.sl false 71 (domsL f)) [.dead]:=(domsL_ok f h).2
noncomputable def S154:List (AV Ty)→T (AV Ty×List (AV Ty))
 |[.agg x]=>match cod33.dec false x with
  |some f=> .ite (okF f) (okF.dec f) (.ret (.sl false 71 (domsL f),[.dead])) .fail
  |none=> .fail
 |_=> .fail
theorem S154_ok (l:List (AV Ty)) (r:AV Ty) (outs:List (AV Ty)) (h:(S154 l).val=some (r,outs)):CallOk tb Try.prog 154 l r outs:=by
 unfold S154 at h
 split at h
 ·rename_i x
  split at h
  ·rename_i f e1
   rcases ite_val h with ⟨e,h⟩|⟨_,h⟩
   ·cases h
    have h1:=cod33_ok.dec false x f e1
    subst h1
    exact doms_ok f e
   ·cases h
  ·cases h
 ·cases h
end Go.Proofs.Ytggibjbcbicpjaa.Ev
namespace Go.Proofs.Ytggibjbcbicpjaa.Ev
open Go
set_option linter.unusedVariables false
set_option linter.unusedSimpArgs false
def WhereP (N L:Nat) (h:List S162):Prop:=h.length=L∧ ∀d,d∈h→d.a0<N
theorem WhereP.set {N L i:Nat} {h:List S162} {x:S162} (hP:WhereP N L h) (hx:x.a0<N):WhereP N L (h.set i x):=by
 refine ⟨by rw [List.length_set];exact hP.1,fun d hd=> ?_⟩
 rcases List.mem_or_eq_of_mem_set hd with hd|rfl
 ·exact hP.2 d hd
 ·exact hx
def loc (f:Ev.Func) (i k:Nat):Nat:=f.params.length+(tyB (f.blocks.take i)).length+(tyI ((f.blocks.getD i (Block.mk [])).ins.take k)).length
theorem loc_zero {f:Ev.Func} {i:Nat}:loc f i 0=f.params.length+(tyB (f.blocks.take i)).length:=by
 unfold loc
 rw [List.take_zero]
 rfl
theorem loc_next {f:Ev.Func} {i:Nat} (hi:i<f.blocks.length):loc f i (f.blocks.getD i (Block.mk [])).ins.length=loc f (i+1) 0:=by
 rw [loc_zero]
 unfold loc
 rw [List.take_length,tyB_step hi,List.length_append]
 omega
theorem loc_step {f:Ev.Func} {i k:Nat} (hk:k<(f.blocks.getD i (Block.mk [])).ins.length):loc f i (k+1)=loc f i k+(if ((f.blocks.getD i (Block.mk [])).ins.getD k (Ins.mk 0 0 0 0 0 [] [])).type_ != 0 then 1 else 0):=by
 unfold loc
 rw [tyI_step hk,List.length_append]
 split<;>simp<;>omega
theorem tyB_app (l l':List Ev.Block):tyB (l++l')=tyB l++tyB l':=by simp [tyB]
theorem tyI_app (l l':List Ev.Ins):tyI (l++l')=tyI l++tyI l':=by simp [tyI]
theorem loc_le {f:Ev.Func} {i k:Nat} (hi:i<f.blocks.length):loc f i k+1≤(typesOf f).length:=by
 have h1:(tyB f.blocks).length=(tyB (f.blocks.take (i+1))).length+(tyB (f.blocks.drop (i+1))).length:=by
  rw [←List.length_append,←tyB_app,List.take_append_drop]
 have h2:(tyI (f.blocks.getD i (Block.mk [])).ins).length=(tyI ((f.blocks.getD i (Block.mk [])).ins.take k)).length+(tyI ((f.blocks.getD i (Block.mk [])).ins.drop k)).length:=by
  rw [←List.length_append,←tyI_app,List.take_append_drop]
 rw [tyB_step hi,List.length_append] at h1
 unfold loc typesOf
 simp only [List.length_append,List.length_cons,List.length_nil]
 omega
theorem types_len {f:Ev.Func} (hf:okF f):(typesOf f).length=1+f.params.length+(tyB f.blocks).length∧(typesOf f).length≤1002000:=by
 have h1:=tyB_le f.blocks
 have h2:=hf.szt f.blocks.length
 rw [List.take_length] at h2
 have h3:=hf.1
 have e:(typesOf f).length=1+f.params.length+(tyB f.blocks).length:=by simp only [typesOf,List.length_append,List.length_singleton]
 exact ⟨e,by rw [e];omega⟩
noncomputable def b153:Code:=bodyOf Try.f153
noncomputable def C153:Cfg Ty:=⟨fun
 |21=>some ([],S21)
 |_=>none,fun
 |3=>true
 |_=>false,64,0⟩
def U153:Cuts:=⟨fun
 |0=>some [(1,none),(3,none)]
 |2=>some [(3,none)]
 |3=>some [(1,none),(3,none),(5,none),(6,none)]
 |4=>some [(1,none),(3,none),(5,none),(6,none)]
 |_=>none,fun
 |0=>some [(1,none),(3,none),(4,none)]
 |2=>some [(1,none),(3,none),(5,none),(6,none)]
 |4=>some [(1,none),(3,none),(5,none),(6,none),(7,none)]
 |_=>none,fun _=>none⟩
noncomputable def k153_j0:List Item:=[.code (sndC (sndC (sndC b153)))]
noncomputable def k153_l0:List Item:=[.code (inC (inC (sndC (fstC (sndC (sndC b153)))))), .inLoop (inC (inC (sndC (fstC (sndC (sndC b153)))))), .inBlock 0, .code (sndC (sndC (sndC b153)))]
noncomputable def k153_j2:List Item:=[.code (sndC (sndC (sndC (sndC (sndC b153)))))]
noncomputable def k153_l2:List Item:=[.code (inC (inC (sndC (fstC (sndC (sndC (sndC (sndC b153)))))))), .inLoop (inC (inC (sndC (fstC (sndC (sndC (sndC (sndC b153)))))))), .inBlock 2, .code (sndC (sndC (sndC (sndC (sndC b153)))))]
noncomputable def k153_j3:List Item:=[.code (sndC (sndC (inC (inC (sndC (fstC (sndC (sndC (sndC (sndC b153)))))))))), .inLoop (inC (inC (sndC (fstC (sndC (sndC (sndC (sndC b153)))))))), .inBlock 2, .code (sndC (sndC (sndC (sndC (sndC b153)))))]
noncomputable def k153_j4:List Item:=[.inBlock 3, .code (sndC (sndC (inC (inC (sndC (fstC (sndC (sndC (sndC (sndC b153)))))))))), .inLoop (inC (inC (sndC (fstC (sndC (sndC (sndC (sndC b153)))))))), .inBlock 2, .code (sndC (sndC (sndC (sndC (sndC b153)))))]
noncomputable def k153_l4:List Item:=[.code (inC (inC (sndC (inC (fstC (sndC (inC (inC (sndC (fstC (sndC (sndC (sndC (sndC b153)))))))))))))), .inLoop (inC (inC (sndC (inC (fstC (sndC (inC (inC (sndC (fstC (sndC (sndC (sndC (sndC b153)))))))))))))), .inBlock 4, .inBlock 3, .code (sndC (sndC (inC (inC (sndC (fstC (sndC (sndC (sndC (sndC b153)))))))))), .inLoop (inC (inC (sndC (fstC (sndC (sndC (sndC (sndC b153)))))))), .inBlock 2, .code (sndC (sndC (sndC (sndC (sndC b153)))))]
def a153 (f:Func):List (AV Ty):=[.agg [.v (.string f.name), .v (.bool f.out), .sl false (3:Nat) f.params, .v (.int .i64 f.result), .sl false (44:Nat) f.blocks]]
noncomputable def R153 (f:Func):St Ty→EvR:=resT tb C153 Try.f153.results.toList (.fro 162) (a153 f)
def s153_l0 (f:Func) (v4:Int) (h0:List Func) (h1:List S162):St Ty:=St.mk [(1, .ptr (0) [] (0) (0)),(3, .ref (1) [] none false),(4, .v (.int .i64 v4))] [some (Root.mk (33) false h0),some (Root.mk (162) false h1)]
def s153_j0 (f:Func) (h0:List Func) (h1:List S162):St Ty:=St.mk [(1, .ptr (0) [] (0) (0)),(3, .ref (1) [] none false)] [some (Root.mk (33) false h0),some (Root.mk (162) false h1)]
def s153_l2 (f:Func) (v5:Int) (v6:Int) (h0:List Func) (h1:List S162):St Ty:=St.mk [(1, .ptr (0) [] (0) (0)),(3, .ref (1) [] none false),(5, .v (.int .i64 v5)),(6, .v (.int .i64 v6))] [some (Root.mk (33) false h0),some (Root.mk (162) false h1)]
def s153_l4 (f:Func) (v5:Int) (v6:Int) (v7:Int) (h0:List Func) (h1:List S162):St Ty:=St.mk [(1, .ptr (0) [] (0) (0)),(3, .ref (1) [] none false),(5, .v (.int .i64 v5)),(6, .v (.int .i64 v6)),(7, .v (.int .i64 v7))] [some (Root.mk (33) false h0),some (Root.mk (162) false h1)]
def s153_j2 (f:Func) (h0:List S162):St Ty:=St.mk [(3, .ref (0) [] none false)] [some (Root.mk (162) false h0)]
def s153_j4 (f:Func) (v5:Int) (v6:Int) (h0:List Func) (h1:List S162):St Ty:=St.mk [(1, .ptr (0) [] (0) (0)),(3, .ref (1) [] none false),(5, .v (.int .i64 v5)),(6, .v (.int .i64 v6))] [some (Root.mk (33) false h0),some (Root.mk (162) false h1)]
def s153_j3 (f:Func) (v5:Int) (v6:Int) (h0:List Func) (h1:List S162):St Ty:=St.mk [(1, .ptr (0) [] (0) (0)),(3, .ref (1) [] none false),(5, .v (.int .i64 v5)),(6, .v (.int .i64 v6))] [some (Root.mk (33) false h0),some (Root.mk (162) false h1)]
theorem e153 (J f):run tb C153 U153 J (R153 f) 4096 [.code b153] ⟨slotsA (a153 f) 0 0,heapA (a153 f)⟩=
 if okF (Func.mk f.name f.out f.params f.result f.blocks) then
 if 0≤IntKind.i64.wrap ((↑(typesOf (Func.mk f.name f.out f.params f.result f.blocks)).length:Int)-1+1)∧IntKind.i64.wrap ((↑(typesOf (Func.mk f.name f.out f.params f.result f.blocks)).length:Int)-1+1)≤IntKind.i64.wrap ((↑(typesOf (Func.mk f.name f.out f.params f.result f.blocks)).length:Int)-1+1)∧IntKind.i64.wrap ((↑(typesOf (Func.mk f.name f.out f.params f.result f.blocks)).length:Int)-1+1)≤1099511627776∧IntKind.i64.wrap ((↑(typesOf (Func.mk f.name f.out f.params f.result f.blocks)).length:Int)-1+1)*(↑16:Int)≤1099511627776 then
 J k153_l0 (s153_l0 f 0 ([Func.mk f.name f.out f.params f.result f.blocks]) (List.replicate (IntKind.i64.wrap ((↑(typesOf (Func.mk f.name f.out f.params f.result f.blocks)).length:Int)-1+1)).toNat (S162.mk 0 0)))
 else none
 else none:=by kernel_rfl
theorem e153_l0 (J f v4 h0 h1):run tb C153 U153 J (R153 f) 4096 k153_l0 (s153_l0 f v4 h0 h1)=
 if decide (v4≤(↑(h0.getD (0) (Func.mk ByteArray.empty false [] 0 [])).params.length:Int))=true then
 if 0≤v4 then
 if v4<(↑h1.length:Int) then
 J k153_l0 (s153_l0 f (IntKind.i64.wrap (v4+1)) h0 (h1.set (0+v4.toNat) (S162.mk (-1:Int) (-1:Int))))
 else none
 else none
 else
 J k153_j0 (s153_j0 f h0 h1):=by kernel_rfl
theorem e153_j0 (J f h0 h1):run tb C153 U153 J (R153 f) 4096 k153_j0 (s153_j0 f h0 h1)=
 J k153_l2 (s153_l2 f ((↑(h0.getD (0) (Func.mk ByteArray.empty false [] 0 [])).params.length:Int)) 0 h0 h1):=by kernel_rfl
theorem e153_l2 (J f v5 v6 h0 h1):run tb C153 U153 J (R153 f) 4096 k153_l2 (s153_l2 f v5 v6 h0 h1)=
 if decide (v6<(↑(h0.getD (0) (Func.mk ByteArray.empty false [] 0 [])).blocks.length:Int))=true then
 J k153_l4 (s153_l4 f v5 v6 0 h0 h1)
 else
 J k153_j2 (s153_j2 f h1):=by kernel_rfl
theorem e153_l4 (J f v5 v6 v7 h0 h1):run tb C153 U153 J (R153 f) 4096 k153_l4 (s153_l4 f v5 v6 v7 h0 h1)=
 if 0≤v6 then
 if v6<(↑(h0.getD (0) (Func.mk ByteArray.empty false [] 0 [])).blocks.length:Int) then
 if decide (v7<(↑((h0.getD (0) (Func.mk ByteArray.empty false [] 0 [])).blocks.getD v6.toNat (Block.mk [])).ins.length:Int))=true then
 if 0≤v6 then
 if v6<(↑(h0.getD (0) (Func.mk ByteArray.empty false [] 0 [])).blocks.length:Int) then
 if 0≤v7 then
 if v7<(↑((h0.getD (0) (Func.mk ByteArray.empty false [] 0 [])).blocks.getD v6.toNat (Block.mk [])).ins.length:Int) then
 if ((rdI (h0.getD (0) (Func.mk ByteArray.empty false [] 0 [])).blocks v6.toNat v7.toNat).type_ != 0)=true then
 if 0≤IntKind.i64.wrap (v5+1) then
 if IntKind.i64.wrap (v5+1)<(↑h1.length:Int) then
 J k153_l4 (s153_l4 f (IntKind.i64.wrap (v5+1)) v6 (IntKind.i64.wrap (v7+1)) h0 (h1.set (0+(IntKind.i64.wrap (v5+1)).toNat) (S162.mk v6 v7)))
 else none
 else none
 else
 J k153_l4 (s153_l4 f v5 v6 (IntKind.i64.wrap (v7+1)) h0 h1)
 else none
 else none
 else none
 else none
 else
 J k153_j4 (s153_j4 f v5 v6 h0 h1)
 else none
 else none:=by kernel_rfl
theorem e153_j2 (J f h0):run tb C153 U153 J (R153 f) 4096 k153_j2 (s153_j2 f h0)=
 some (.sl false (162) h0,[.dead]):=by kernel_rfl
theorem e153_j4 (J f v5 v6 h0 h1):run tb C153 U153 J (R153 f) 4096 k153_j4 (s153_j4 f v5 v6 h0 h1)=
 J k153_j3 (s153_j3 f v5 v6 h0 h1):=by kernel_rfl
theorem e153_j3 (J f v5 v6 h0 h1):run tb C153 U153 J (R153 f) 4096 k153_j3 (s153_j3 f v5 v6 h0 h1)=
 J k153_l2 (s153_l2 f v5 (IntKind.i64.wrap (v6+1)) h0 h1):=by kernel_rfl

theorem in153:Entered 153:=⟨Try.f153,b153,by kernel_rfl,by kernel_rfl,by kernel_rfl⟩
theorem fn153 (f:Ev.Func) {res:AV Ty} {outs:List (AV Ty)} (h:Ends C153 U153 (R153 f) [.code b153] ⟨slotsA (a153 f) 0 0,heapA (a153 f)⟩ (some (res,outs))):CallOk tb Try.prog 153 (a153 f) res outs:=by
 obtain ⟨n0,hn⟩:=h
 exact fn_ok (C:=C153) (U:=U153) (n:=0+n0) (q:=(.fro 162)) tbOk good (fun f mu S h=>by
  unfold C153 at h
  simp only at h
  split at h
  ·cases h;exact ⟨in21,S21_ok⟩
  ·cases h) mixed (fn:=Try.f153) (body:=b153) (by kernel_rfl) (by kernel_rfl) rfl rfl (by show 1≤64;omega) (hn 0)
section
variable {f:Ev.Func}
theorem Where.in (hf:okF f) {i k:Nat} (hi:i<f.blocks.length) (hk:k<(f.blocks.getD i (Block.mk [])).ins.length) {G:List S162} (hG:WhereP f.blocks.length (typesOf f).length G): ∃G',WhereP f.blocks.length (typesOf f).length G'∧Goes C153 U153 (R153 f) k153_l4 (s153_l4 f (loc f i k) i k [f] G) k153_l4 (s153_l4 f (loc f i (k+1)) i (k+1:Nat) [f] G'):=by
 have h0:=hf.2.1
 have h1:=hf.b hi
 have h2:=types_len hf
 have hs:=loc_step hk
 have hle:=loc_le (k:=k+1) hi
 have hl:=hG.1
 have ww:IntKind.i64.wrap ((k:Int)+1)=((k+1:Nat):Int):=wrap_nat (by omega) (by omega)
 cases ht:(((f.blocks.getD i (Block.mk [])).ins.getD k (Ins.mk 0 0 0 0 0 [] [])).type_ != 0) with
 |false=>
  rw [ht] at hs
  simp only [Bool.false_eq_true,if_false,Nat.add_zero] at hs
  refine ⟨G,hG, .step fun J=> ?_⟩
  rw [e153_l4,hs]
  simp only [Int.toNat_natCast,ww,List.getD_cons_zero,rdI,ht]
  simp (disch:=first|omega|assumption|(rw [dT];omega)|(rw [dF];omega)) only [↓iP,↓iN,iT,iF,wrap_up,tN,Nat.zero_add,Bool.false_eq_true]
 |true=>
  rw [ht] at hs
  simp only [if_true] at hs
  have w2:IntKind.i64.wrap ((loc f i k:Int)+1)=((loc f i k+1:Nat):Int):=wrap_nat (by omega) (by omega)
  refine ⟨G.set (loc f i k+1) ⟨i,k⟩,hG.set (by simp only;omega), .step fun J=> ?_⟩
  rw [e153_l4,hs]
  simp only [w2,Int.toNat_natCast,ww,List.getD_cons_zero,rdI,ht,Nat.zero_add]
  simp (disch:=first|omega|assumption|(rw [dT];omega)|(rw [dF];omega)) only [↓iP,↓iN,iT,iF,wrap_up,tN,Nat.zero_add]
theorem Where.block (hf:okF f) {i:Nat} (hi:i<f.blocks.length) {G:List S162} (hG:WhereP f.blocks.length (typesOf f).length G): ∃G',WhereP f.blocks.length (typesOf f).length G'∧Goes C153 U153 (R153 f) k153_l2 (s153_l2 f (loc f i 0) i [f] G) k153_l2 (s153_l2 f (loc f (i+1) 0) (i+1:Nat) [f] G'):=by
 have h0:=hf.2.1
 have ww:IntKind.i64.wrap ((i:Int)+1)=((i+1:Nat):Int):=wrap_nat (by omega) (by omega)
 obtain ⟨G',g1,g2⟩:=Goes.shapeI (C:=C153) (U:=U153) (Rt:=R153 f) (k:=k153_l4) (fun (k:Nat) (G:List S162)=>s153_l4 f (loc f i k) i k [f] G) (f.blocks.getD i (Block.mk [])).ins.length (fun _=>WhereP f.blocks.length (typesOf f).length) (fun k G hk hP=>Where.in hf hi hk hP) G hG _ (Nat.le_refl _)
 rw [loc_next hi] at g2
 refine ⟨G',g1, .trans (.step fun J=> ?_) (g2.trans (.trans (k':=k153_j4) (s':=s153_j4 f (loc f (i+1) 0) i [f] G') (.step fun J=> ?_) (.trans (.step fun J=>e153_j4 ..) (.step fun J=> ?_))))⟩
 ·rw [e153_l2]
  simp only [Int.toNat_natCast,List.getD_cons_zero]
  simp (disch:=first|omega|assumption|(rw [dT];omega)|(rw [dF];omega)) only [↓iP,↓iN,iT,iF,wrap_up,tN,Nat.zero_add]
  rfl
 ·rw [e153_l4]
  simp only [Int.toNat_natCast,List.getD_cons_zero]
  simp (disch:=first|omega|assumption|(rw [dT];omega)|(rw [dF];omega)) only [↓iP,↓iN,iT,iF,wrap_up,tN,Nat.zero_add]
 ·rw [e153_j3,ww]
theorem where_ex (f:Ev.Func) (hf:okF f∧1≤f.blocks.length): ∃l:List S162,WhereP f.blocks.length (typesOf f).length l∧CallOk tb Try.prog 153 (a153 f) (.sl false 162 l) [.dead]:=by
 obtain ⟨hf,h1⟩:=hf
 have h0:=hf.2.1
 have hp:=hf.1
 obtain ⟨t1,t2⟩:=types_len hf
 have e0:(Func.mk f.name f.out f.params f.result f.blocks)=f:=rfl
 have w:IntKind.i64.wrap (((typesOf f).length:Int)-1+1)=((typesOf f).length:Int):=wrap_nat (by omega) (by omega)
 obtain ⟨G1,g1,g2⟩:=Goes.shapeI (C:=C153) (U:=U153) (Rt:=R153 f) (k:=k153_l0) (fun (k:Nat) (G:List S162)=>s153_l0 f k [f] G) (f.params.length+1) (fun _=>WhereP f.blocks.length (typesOf f).length) (fun k G hk hP=>⟨G.set k ⟨-1,-1⟩,hP.set (by simp only;omega), .step fun J=>by
  have hl:=hP.1
  have ww:IntKind.i64.wrap ((k:Int)+1)=((k+1:Nat):Int):=wrap_nat (by omega) (by omega)
  rw [e153_l0]
  simp only [Int.toNat_natCast,ww,List.getD_cons_zero,Nat.zero_add]
  simp (disch:=first|omega|assumption|(rw [dT];omega)|(rw [dF];omega)) only [↓iP,↓iN,iT,iF,wrap_up,tN,Nat.zero_add]⟩) (List.replicate (typesOf f).length ⟨0,0⟩) ⟨List.length_replicate,fun d hd=>by
   have:=List.eq_of_mem_replicate hd
   subst this
   simp only
   omega⟩ _ (Nat.le_refl _)
 obtain ⟨G2,g3,g4⟩:=Goes.shapeI (C:=C153) (U:=U153) (Rt:=R153 f) (k:=k153_l2) (fun (i:Nat) (G:List S162)=>s153_l2 f (loc f i 0) i [f] G) f.blocks.length (fun _=>WhereP f.blocks.length (typesOf f).length) (fun i G hi hP=>Where.block hf hi hP) G1 g1 _ (Nat.le_refl _)
 refine ⟨G2,g3,fn153 f (Goes.ends (.step fun J=> ?_) (g2.ends (Goes.ends (k':=k153_j0) (s':=s153_j0 f [f] G1) (.step fun J=> ?_) (Goes.ends (.step fun J=> ?_) (g4.ends (Goes.ends (k':=k153_j2) (s':=s153_j2 f G2) (.step fun J=> ?_) (.step fun J=>e153_j2 ..)))))))⟩
 ·rw [e153,e0,w]
  have c1:0≤((typesOf f).length:Int)∧((typesOf f).length:Int)≤((typesOf f).length:Int)∧((typesOf f).length:Int)≤1099511627776∧((typesOf f).length:Int)*((16:Nat):Int)≤1099511627776:=by omega
  simp (disch:=first|omega|assumption|(rw [dT];omega)|(rw [dF];omega)) only [↓iP,↓iN,iT,iF,wrap_up,tN,Nat.zero_add,hf,c1,and_self]
  rfl
 ·rw [e153_l0]
  simp only [List.getD_cons_zero]
  simp (disch:=first|omega|assumption|(rw [dT];omega)|(rw [dF];omega)) only [↓iP,↓iN,iT,iF,wrap_up,tN,Nat.zero_add]
 ·rw [e153_j0,loc_zero]
  rfl
 ·rw [e153_l2]
  simp only [List.getD_cons_zero]
  simp (disch:=first|omega|assumption|(rw [dT];omega)|(rw [dF];omega)) only [↓iP,↓iN,iT,iF,wrap_up,tN,Nat.zero_add]
end
def wherePre (f:Ev.Func):Prop:=okF f∧1≤f.blocks.length
instance wherePre.dec (f:Ev.Func):Decidable (wherePre f):=by unfold wherePre;infer_instance
noncomputable def whereL (f:Ev.Func):List S162:=if h:okF f∧1≤f.blocks.length then Classical.choose (where_ex f h) else []
theorem whereL_ok (f:Ev.Func) (h:wherePre f):WhereP f.blocks.length (typesOf f).length (whereL f)∧CallOk tb Try.prog 153 (a153 f) (.sl false 162 (whereL f)) [.dead]:=by
 have h:okF f∧1≤f.blocks.length:=h
 unfold whereL
 rw [dif_pos h]
 exact Classical.choose_spec (where_ex f h)
theorem where_ok (f:Ev.Func) (h:wherePre f):CallOk tb Try.prog 153 (a153 f) (.sl false 162 (whereL f)) [.dead]:=(whereL_ok f h).2
noncomputable def S153:List (AV Ty)→T (AV Ty×List (AV Ty))
 |[.agg x]=>match cod33.dec false x with
  |some f=> .ite (wherePre f) (wherePre.dec f) (.ret (.sl false 162 (whereL f),[.dead])) .fail
  |none=> .fail
 |_=> .fail
theorem S153_ok (l:List (AV Ty)) (r:AV Ty) (outs:List (AV Ty)) (h:(S153 l).val=some (r,outs)):CallOk tb Try.prog 153 l r outs:=by
 unfold S153 at h
 split at h
 ·rename_i x
  split at h
  ·rename_i f e1
   rcases ite_val h with ⟨e,h⟩|⟨_,h⟩
   ·cases h
    have h1:=cod33_ok.dec false x f e1
    subst h1
    exact where_ok f e
   ·cases h
  ·cases h
 ·cases h
end Go.Proofs.Ytggibjbcbicpjaa.Ev
namespace Go.Proofs.Ytggibjbcbicpjaa.Ev
open Go
set_option linter.unusedVariables false
set_option linter.unusedSimpArgs false
def flowPre (f:Ev.Func):Prop:=okF f∧FnQ f
def FlowQ (f:Ev.Func):Prop:=(∀b,b<f.blocks.length→0<(f.blocks.getD b (Block.mk [])).ins.length)∧ ∀b,b<f.blocks.length→ ∀k,k<(f.blocks.getD b (Block.mk [])).ins.length→((f.blocks.getD b (Block.mk [])).ins.getD k (Ins.mk 0 0 0 0 0 [] [])).op=26→b≠0∧((f.blocks.getD b (Block.mk [])).ins.getD k (Ins.mk 0 0 0 0 0 [] [])).into=(prevL f).getD b []
theorem same3_eq {a b:List Int} (h:same3 a b=true):a=b:=by simpa [same3] using h
noncomputable def b128:Code:=bodyOf Try.f128
noncomputable def C128:Cfg Ty:=⟨fun
 |150=>some ([],S150)
 |151=>some ([],S151)
 |152=>some ([],S152)
 |29=>some ([],S29)
 |_=>none,fun _=>false,163,0⟩
def U128:Cuts:=⟨fun
 |0=>some [(1,none)]
 |1=>some [(1,none),(3,none)]
 |2=>some [(1,none),(3,none),(4,none)]
 |4=>some [(1,none),(3,none),(6,none)]
 |6=>some []
 |7=>some [(1,none),(8,none),(9,none),(10,none)]
 |8=>some [(1,none),(8,none),(9,none),(10,none)]
 |_=>none,fun
 |0=>some [(1,none),(3,none)]
 |2=>some [(1,none),(3,none),(4,none),(5,none)]
 |4=>some [(1,none),(3,none),(6,none),(7,none)]
 |6=>some [(1,none),(8,none),(9,none),(10,none)]
 |8=>some [(1,none),(8,none),(9,none),(10,none),(11,none),(12,none)]
 |_=>none,fun
 |16=>some [0,1,2,3,4,5,6,7,8,9,10,11,12,13,14,15,16]
 |18=>some [0,1,2,3,4,5,6,7,8,9,10,11,12,13]
 |20=>some [0,2,1,3,4,5]
 |30=>some [0,1,2,3,4,5,6,7,8,9,10,11,12,13,14,15,16,17,18,19,20,21,22]
 |_=>none⟩
noncomputable def k128_j0:List Item:=[.code (sndC (sndC b128))]
noncomputable def k128_l0:List Item:=[.code (inC (inC (sndC (fstC (sndC b128))))), .inLoop (inC (inC (sndC (fstC (sndC b128))))), .inBlock 0, .code (sndC (sndC b128))]
noncomputable def k128_j1:List Item:=[.code (sndC (sndC (inC (inC (sndC (fstC (sndC b128))))))), .inLoop (inC (inC (sndC (fstC (sndC b128))))), .inBlock 0, .code (sndC (sndC b128))]
noncomputable def k128_j2:List Item:=[.code (sndC (sndC (sndC (inC (fstC (sndC (inC (inC (sndC (fstC (sndC b128))))))))))), .inBlock 1, .code (sndC (sndC (inC (inC (sndC (fstC (sndC b128))))))), .inLoop (inC (inC (sndC (fstC (sndC b128))))), .inBlock 0, .code (sndC (sndC b128))]
noncomputable def k128_l2:List Item:=[.code (inC (inC (sndC (fstC (sndC (sndC (inC (fstC (sndC (inC (inC (sndC (fstC (sndC b128)))))))))))))), .inLoop (inC (inC (sndC (fstC (sndC (sndC (inC (fstC (sndC (inC (inC (sndC (fstC (sndC b128)))))))))))))), .inBlock 2, .code (sndC (sndC (sndC (inC (fstC (sndC (inC (inC (sndC (fstC (sndC b128))))))))))), .inBlock 1, .code (sndC (sndC (inC (inC (sndC (fstC (sndC b128))))))), .inLoop (inC (inC (sndC (fstC (sndC b128))))), .inBlock 0, .code (sndC (sndC b128))]
noncomputable def k128_j4:List Item:=[.code (sndC (sndC (sndC (sndC (sndC (inC (fstC (sndC (inC (inC (sndC (fstC (sndC b128))))))))))))), .inBlock 1, .code (sndC (sndC (inC (inC (sndC (fstC (sndC b128))))))), .inLoop (inC (inC (sndC (fstC (sndC b128))))), .inBlock 0, .code (sndC (sndC b128))]
noncomputable def k128_l4:List Item:=[.code (inC (inC (sndC (fstC (sndC (sndC (sndC (sndC (inC (fstC (sndC (inC (inC (sndC (fstC (sndC b128)))))))))))))))), .inLoop (inC (inC (sndC (fstC (sndC (sndC (sndC (sndC (inC (fstC (sndC (inC (inC (sndC (fstC (sndC b128)))))))))))))))), .inBlock 4, .code (sndC (sndC (sndC (sndC (sndC (inC (fstC (sndC (inC (inC (sndC (fstC (sndC b128))))))))))))), .inBlock 1, .code (sndC (sndC (inC (inC (sndC (fstC (sndC b128))))))), .inLoop (inC (inC (sndC (fstC (sndC b128))))), .inBlock 0, .code (sndC (sndC b128))]
noncomputable def k128_j6:List Item:=[.code (sndC (sndC (sndC (sndC b128))))]
noncomputable def k128_l6:List Item:=[.code (inC (inC (sndC (fstC (sndC (sndC (sndC b128))))))), .inLoop (inC (inC (sndC (fstC (sndC (sndC (sndC b128))))))), .inBlock 6, .code (sndC (sndC (sndC (sndC b128))))]
noncomputable def k128_j7:List Item:=[.code (sndC (sndC (inC (inC (sndC (fstC (sndC (sndC (sndC b128))))))))), .inLoop (inC (inC (sndC (fstC (sndC (sndC (sndC b128))))))), .inBlock 6, .code (sndC (sndC (sndC (sndC b128))))]
noncomputable def k128_j8:List Item:=[.inBlock 7, .code (sndC (sndC (inC (inC (sndC (fstC (sndC (sndC (sndC b128))))))))), .inLoop (inC (inC (sndC (fstC (sndC (sndC (sndC b128))))))), .inBlock 6, .code (sndC (sndC (sndC (sndC b128))))]
noncomputable def k128_l8:List Item:=[.code (inC (inC (sndC (sndC (sndC (inC (fstC (sndC (inC (inC (sndC (fstC (sndC (sndC (sndC b128))))))))))))))), .inLoop (inC (inC (sndC (sndC (sndC (inC (fstC (sndC (inC (inC (sndC (fstC (sndC (sndC (sndC b128))))))))))))))), .inBlock 8, .inBlock 7, .code (sndC (sndC (inC (inC (sndC (fstC (sndC (sndC (sndC b128))))))))), .inLoop (inC (inC (sndC (fstC (sndC (sndC (sndC b128))))))), .inBlock 6, .code (sndC (sndC (sndC (sndC b128))))]
def a128 (f:Func):List (AV Ty):=[.agg [.v (.string f.name), .v (.bool f.out), .sl false (3:Nat) f.params, .v (.int .i64 f.result), .sl false (44:Nat) f.blocks]]
noncomputable def R128 (f:Func):St Ty→EvR:=resT tb C128 Try.f128.results.toList .keep (a128 f)
def s128_l0 (f:Func) (v3:Int) (h0:List Func):St Ty:=St.mk [(1, .ptr (0) [] (0) (0)),(3, .v (.int .i64 v3))] [some (Root.mk (33) false h0)]
def s128_l2 (f:Func) (v3:Int) (v4:List Ins) (v5:Int) (h0:List Func):St Ty:=St.mk [(1, .ptr (0) [] (0) (0)),(3, .v (.int .i64 v3)),(4, .sl false (46) v4),(5, .v (.int .i64 v5))] [some (Root.mk (33) false h0)]
def s128_j0 (f:Func) (h0:List Func):St Ty:=St.mk [(1, .ptr (0) [] (0) (0))] [some (Root.mk (33) false h0)]
def s128_j2 (f:Func) (v3:Int) (v4:List Ins) (h0:List Func):St Ty:=St.mk [(1, .ptr (0) [] (0) (0)),(3, .v (.int .i64 v3)),(4, .sl false (46) v4)] [some (Root.mk (33) false h0)]
def s128_l6 (f:Func) (v8:List Bool) (v9:List (List Int)) (v10:Int) (h0:List Func):St Ty:=St.mk [(1, .ptr (0) [] (0) (0)),(8, .sl false (4) v8),(9, .sl false (30) v9),(10, .v (.int .i64 v10))] [some (Root.mk (33) false h0)]
def s128_l4 (f:Func) (v3:Int) (v7:Int) (h0:List Func) (h1:List Ins):St Ty:=St.mk [(1, .ptr (0) [] (0) (0)),(3, .v (.int .i64 v3)),(6, .ptr (1) [] (0) (0)),(7, .v (.int .i64 v7))] [some (Root.mk (33) false h0),some (Root.mk (46) false h1)]
def s128_l8 (f:Func) (v8:List Bool) (v9:List (List Int)) (v10:Int) (v11:List Ins) (v12:Int) (h0:List Func):St Ty:=St.mk [(1, .ptr (0) [] (0) (0)),(8, .sl false (4) v8),(9, .sl false (30) v9),(10, .v (.int .i64 v10)),(11, .sl false (46) v11),(12, .v (.int .i64 v12))] [some (Root.mk (33) false h0)]
def s128_j6 (f:Func):St Ty:=St.mk [] []
def s128_j4 (f:Func) (v3:Int) (h0:List Func) (h1:List Ins):St Ty:=St.mk [(1, .ptr (0) [] (0) (0)),(3, .v (.int .i64 v3)),(6, .ptr (1) [] (0) (0))] [some (Root.mk (33) false h0),some (Root.mk (46) false h1)]
def s128_j8 (f:Func) (v8:List Bool) (v9:List (List Int)) (v10:Int) (h0:List Func):St Ty:=St.mk [(1, .ptr (0) [] (0) (0)),(8, .sl false (4) v8),(9, .sl false (30) v9),(10, .v (.int .i64 v10))] [some (Root.mk (33) false h0)]
def s128_j1 (f:Func) (v3:Int) (h0:List Func):St Ty:=St.mk [(1, .ptr (0) [] (0) (0)),(3, .v (.int .i64 v3))] [some (Root.mk (33) false h0)]
def s128_j7 (f:Func) (v8:List Bool) (v9:List (List Int)) (v10:Int) (h0:List Func):St Ty:=St.mk [(1, .ptr (0) [] (0) (0)),(8, .sl false (4) v8),(9, .sl false (30) v9),(10, .v (.int .i64 v10))] [some (Root.mk (33) false h0)]
theorem e128 (J f):run tb C128 U128 J (R128 f) 4096 [.code b128] ⟨slotsA (a128 f) 0 0,heapA (a128 f)⟩=
 J k128_l0 (s128_l0 f 0 ([Func.mk f.name f.out f.params f.result f.blocks])):=by kernel_rfl
theorem e128_l0 (J f v3 h0):run tb C128 U128 J (R128 f) 4096 k128_l0 (s128_l0 f v3 h0)=
 if decide (v3<(↑(h0.getD (0) (Func.mk ByteArray.empty false [] 0 [])).blocks.length:Int))=true then
 if 0≤v3 then
 if v3<(↑(h0.getD (0) (Func.mk ByteArray.empty false [] 0 [])).blocks.length:Int) then
 if ((↑((h0.getD (0) (Func.mk ByteArray.empty false [] 0 [])).blocks.getD v3.toNat (Block.mk [])).ins.length:Int) == 0)=true then
 some (.v (.bool false),[.dead])
 else
 J k128_l2 (s128_l2 f v3 (((h0.getD (0) (Func.mk ByteArray.empty false [] 0 [])).blocks.getD v3.toNat (Block.mk [])).ins) 0 h0)
 else none
 else none
 else
 J k128_j0 (s128_j0 f h0):=by kernel_rfl
theorem e128_l2 (J f v3 v4 v5 h0):run tb C128 U128 J (R128 f) 4096 k128_l2 (s128_l2 f v3 v4 v5 h0)=
 if decide (v5<(↑v4.length:Int))=true then
 if 0≤v5 then
 if v5<(↑v4.length:Int) then
 if (!endsB (v4.getD v5.toNat (Ins.mk 0 0 0 0 0 [] [])).op == (v5 == IntKind.i64.wrap ((↑v4.length:Int)-1)))=false then
 if decide (v5>0)=true then
 if 0≤v5 then
 if v5<(↑v4.length:Int) then
 if ((v4.getD v5.toNat (Ins.mk 0 0 0 0 0 [] [])).op == 26)=true then
 if 0≤IntKind.i64.wrap (v5-1) then
 if IntKind.i64.wrap (v5-1)<(↑v4.length:Int) then
 if ((v4.getD (IntKind.i64.wrap (v5-1)).toNat (Ins.mk 0 0 0 0 0 [] [])).op != 26)=true then
 some (.v (.bool false),[.dead])
 else
 J k128_l2 (s128_l2 f v3 v4 (IntKind.i64.wrap (v5+1)) h0)
 else none
 else none
 else
 J k128_l2 (s128_l2 f v3 v4 (IntKind.i64.wrap (v5+1)) h0)
 else none
 else none
 else
 J k128_l2 (s128_l2 f v3 v4 (IntKind.i64.wrap (v5+1)) h0)
 else
 some (.v (.bool false),[.dead])
 else none
 else none
 else
 J k128_j2 (s128_j2 f v3 v4 h0):=by kernel_rfl
theorem e128_j0 (J f h0):run tb C128 U128 J (R128 f) 4096 k128_j0 (s128_j0 f h0)=
 if okF (Func.mk (h0.getD (0) (Func.mk ByteArray.empty false [] 0 [])).name (h0.getD (0) (Func.mk ByteArray.empty false [] 0 [])).out (h0.getD (0) (Func.mk ByteArray.empty false [] 0 [])).params (h0.getD (0) (Func.mk ByteArray.empty false [] 0 [])).result (h0.getD (0) (Func.mk ByteArray.empty false [] 0 [])).blocks) then
 if okF (Func.mk (h0.getD (0) (Func.mk ByteArray.empty false [] 0 [])).name (h0.getD (0) (Func.mk ByteArray.empty false [] 0 [])).out (h0.getD (0) (Func.mk ByteArray.empty false [] 0 [])).params (h0.getD (0) (Func.mk ByteArray.empty false [] 0 [])).result (h0.getD (0) (Func.mk ByteArray.empty false [] 0 [])).blocks) then
 J k128_l6 (s128_l6 f (reachL (Func.mk (h0.getD (0) (Func.mk ByteArray.empty false [] 0 [])).name (h0.getD (0) (Func.mk ByteArray.empty false [] 0 [])).out (h0.getD (0) (Func.mk ByteArray.empty false [] 0 [])).params (h0.getD (0) (Func.mk ByteArray.empty false [] 0 [])).result (h0.getD (0) (Func.mk ByteArray.empty false [] 0 [])).blocks)) (prevL (Func.mk (h0.getD (0) (Func.mk ByteArray.empty false [] 0 [])).name (h0.getD (0) (Func.mk ByteArray.empty false [] 0 [])).out (h0.getD (0) (Func.mk ByteArray.empty false [] 0 [])).params (h0.getD (0) (Func.mk ByteArray.empty false [] 0 [])).result (h0.getD (0) (Func.mk ByteArray.empty false [] 0 [])).blocks)) 0 h0)
 else none
 else none:=by kernel_rfl
theorem e128_j2 (J f v3 v4 h0):run tb C128 U128 J (R128 f) 4096 k128_j2 (s128_j2 f v3 v4 h0)=
 if 0≤IntKind.i64.wrap ((↑v4.length:Int)-1) then
 if IntKind.i64.wrap ((↑v4.length:Int)-1)<(↑v4.length:Int) then
 J k128_l4 (s128_l4 f v3 0 h0 ([Ins.mk (v4.getD (IntKind.i64.wrap ((↑v4.length:Int)-1)).toNat (Ins.mk 0 0 0 0 0 [] [])).op (v4.getD (IntKind.i64.wrap ((↑v4.length:Int)-1)).toNat (Ins.mk 0 0 0 0 0 [] [])).type_ (v4.getD (IntKind.i64.wrap ((↑v4.length:Int)-1)).toNat (Ins.mk 0 0 0 0 0 [] [])).to_ (v4.getD (IntKind.i64.wrap ((↑v4.length:Int)-1)).toNat (Ins.mk 0 0 0 0 0 [] [])).sym_ (v4.getD (IntKind.i64.wrap ((↑v4.length:Int)-1)).toNat (Ins.mk 0 0 0 0 0 [] [])).num (v4.getD (IntKind.i64.wrap ((↑v4.length:Int)-1)).toNat (Ins.mk 0 0 0 0 0 [] [])).args (v4.getD (IntKind.i64.wrap ((↑v4.length:Int)-1)).toNat (Ins.mk 0 0 0 0 0 [] [])).into]))
 else none
 else none:=by kernel_rfl
theorem e128_l6 (J f v8 v9 v10 h0):run tb C128 U128 J (R128 f) 4096 k128_l6 (s128_l6 f v8 v9 v10 h0)=
 if decide (v10<(↑(h0.getD (0) (Func.mk ByteArray.empty false [] 0 [])).blocks.length:Int))=true then
 if 0≤v10 then
 if v10<(↑v8.length:Int) then
 if (!v8.getD v10.toNat false)=true then
 some (.v (.bool false),[.dead])
 else
 if 0≤v10 then
 if v10<(↑(h0.getD (0) (Func.mk ByteArray.empty false [] 0 [])).blocks.length:Int) then
 J k128_l8 (s128_l8 f v8 v9 v10 (((h0.getD (0) (Func.mk ByteArray.empty false [] 0 [])).blocks.getD v10.toNat (Block.mk [])).ins) 0 h0)
 else none
 else none
 else none
 else none
 else
 J k128_j6 (s128_j6 f):=by kernel_rfl
theorem e128_l4 (J f v3 v7 h0 h1):run tb C128 U128 J (R128 f) 4096 k128_l4 (s128_l4 f v3 v7 h0 h1)=
 if decide (v7<(↑(h1.getD (0) (Ins.mk 0 0 0 0 0 [] [])).into.length:Int))=true then
 if 0≤v7 then
 if v7<(↑(h1.getD (0) (Ins.mk 0 0 0 0 0 [] [])).into.length:Int) then
 if decide ((h1.getD (0) (Ins.mk 0 0 0 0 0 [] [])).into.getD v7.toNat 0<1)=false then
 if 0≤v7 then
 if v7<(↑(h1.getD (0) (Ins.mk 0 0 0 0 0 [] [])).into.length:Int) then
 if decide ((h1.getD (0) (Ins.mk 0 0 0 0 0 [] [])).into.getD v7.toNat 0≥(↑(h0.getD (0) (Func.mk ByteArray.empty false [] 0 [])).blocks.length:Int))=true then
 some (.v (.bool false),[.dead])
 else
 J k128_l4 (s128_l4 f v3 (IntKind.i64.wrap (v7+1)) h0 h1)
 else none
 else none
 else
 some (.v (.bool false),[.dead])
 else none
 else none
 else
 J k128_j4 (s128_j4 f v3 h0 h1):=by kernel_rfl
theorem e128_l8 (J f v8 v9 v10 v11 v12 h0):run tb C128 U128 J (R128 f) 4096 k128_l8 (s128_l8 f v8 v9 v10 v11 v12 h0)=
 if decide (v12<(↑v11.length:Int))=true then
 if 0≤v12 then
 if v12<(↑v11.length:Int) then
 if ((v11.getD v12.toNat (Ins.mk 0 0 0 0 0 [] [])).op == 26)=true then
 if (v10 == 0)=false then
 if 0≤v12 then
 if v12<(↑v11.length:Int) then
 if 0≤v10 then
 if v10<(↑v9.length:Int) then
 if (v11.getD v12.toNat (Ins.mk 0 0 0 0 0 [] [])).into.length≤4611686018427387904 then
 if (!same3 (v11.getD v12.toNat (Ins.mk 0 0 0 0 0 [] [])).into (v9.getD v10.toNat []))=true then
 some (.v (.bool false),[.dead])
 else
 J k128_l8 (s128_l8 f v8 v9 v10 v11 (IntKind.i64.wrap (v12+1)) h0)
 else none
 else none
 else none
 else none
 else none
 else
 some (.v (.bool false),[.dead])
 else
 J k128_l8 (s128_l8 f v8 v9 v10 v11 (IntKind.i64.wrap (v12+1)) h0)
 else none
 else none
 else
 J k128_j8 (s128_j8 f v8 v9 v10 h0):=by kernel_rfl
theorem e128_j6 (J f):run tb C128 U128 J (R128 f) 4096 k128_j6 (s128_j6 f)=
 some (.v (.bool true),[.dead]):=by kernel_rfl
theorem e128_j4 (J f v3 h0 h1):run tb C128 U128 J (R128 f) 4096 k128_j4 (s128_j4 f v3 h0 h1)=
 if ((h1.getD (0) (Ins.mk 0 0 0 0 0 [] [])).op == 28)=true then
 if 0<(↑(h1.getD (0) (Ins.mk 0 0 0 0 0 [] [])).into.length:Int) then
 if 1<(↑(h1.getD (0) (Ins.mk 0 0 0 0 0 [] [])).into.length:Int) then
 if ((h1.getD (0) (Ins.mk 0 0 0 0 0 [] [])).into.getD (Int.toNat 0) 0 == (h1.getD (0) (Ins.mk 0 0 0 0 0 [] [])).into.getD (Int.toNat 1) 0)=true then
 some (.v (.bool false),[.dead])
 else
 J k128_j1 (s128_j1 f v3 h0)
 else none
 else none
 else
 J k128_j1 (s128_j1 f v3 h0):=by kernel_rfl
theorem e128_j8 (J f v8 v9 v10 h0):run tb C128 U128 J (R128 f) 4096 k128_j8 (s128_j8 f v8 v9 v10 h0)=
 J k128_j7 (s128_j7 f v8 v9 v10 h0):=by kernel_rfl
theorem e128_j1 (J f v3 h0):run tb C128 U128 J (R128 f) 4096 k128_j1 (s128_j1 f v3 h0)=
 J k128_l0 (s128_l0 f (IntKind.i64.wrap (v3+1)) h0):=by kernel_rfl
theorem e128_j7 (J f v8 v9 v10 h0):run tb C128 U128 J (R128 f) 4096 k128_j7 (s128_j7 f v8 v9 v10 h0)=
 J k128_l6 (s128_l6 f v8 v9 (IntKind.i64.wrap (v10+1)) h0):=by kernel_rfl

theorem in128:Entered 128:=⟨Try.f128,b128,by kernel_rfl,by kernel_rfl,by kernel_rfl⟩
theorem fn128 (f:Ev.Func) {res:AV Ty} {outs:List (AV Ty)} (h:Ends C128 U128 (R128 f) [.code b128] ⟨slotsA (a128 f) 0 0,heapA (a128 f)⟩ (some (res,outs))):CallOk tb Try.prog 128 (a128 f) res outs:=by
 obtain ⟨n0,hn⟩:=h
 exact fn_ok (C:=C128) (U:=U128) (n:=0+n0) (q:= .keep) tbOk good (fun f mu S h=>by
  unfold C128 at h
  simp only at h
  split at h
  ·cases h;exact ⟨in150,S150_ok⟩
  ·cases h;exact ⟨in151,S151_ok⟩
  ·cases h;exact ⟨in152,S152_ok⟩
  ·cases h;exact ⟨in29,S29_ok⟩
  ·cases h) mixed (fn:=Try.f128) (body:=b128) (by kernel_rfl) (by kernel_rfl) rfl rfl (by show 1≤163;omega) (hn 0)
section
variable {f:Ev.Func}
theorem Flows.i {b k:Nat} {l:List Ev.Ins} (hl:l.length≤1000) (hk:k<l.length):Way C128 U128 (R128 f) (rD false) k128_l2 (s128_l2 f b l k [f]) k128_l2 (s128_l2 f b l (k+1:Nat) [f]) True:=by
 have w1:IntKind.i64.wrap ((k:Int)-1)=(k:Int)-1:=wrap_up (by omega)
 refine Way.of (fun J=>e128_l2 J f b l k [f]) ?_
 have w:IntKind.i64.wrap ((k:Int)+1)=((k+1:Nat):Int):=wrap_nat (by omega) (by omega)
 simp only [w1,List.getD_cons_zero,Int.toNat_natCast,w]
 repeat' first|refine tree_qt (fun _=> ?_) (fun _=> ?_)|refine tree_qf (fun _=> ?_) (fun _=> ?_)|refine tree_nt (fun _=> ?_) (fun _=> ?_)|refine tree_nf (fun _=> ?_) (fun _=> ?_)|refine tree_et (fun _=> ?_) (fun _=> ?_)|refine tree_ef (fun _=> ?_) (fun _=> ?_)|refine tree_dt (fun _=> ?_) (fun _=> ?_)|refine tree_df (fun _=> ?_) (fun _=> ?_)|refine tree_bt (fun _=> ?_) (fun _=> ?_)|refine tree_bf (fun _=> ?_) (fun _=> ?_)|refine tree_ite (fun _=> ?_) (fun _=> ?_)
 all_goals first|exact WayT.no (fun J=>rfl)|exact WayT.yes (fun J=>rfl) (trivial)|(exfalso;omega)
theorem Flows.n {b k:Nat} {x:Ev.Ins} (hl:x.into.length≤1000) (hk:k<x.into.length):Way C128 U128 (R128 f) (rD false) k128_l4 (s128_l4 f b k [f] [x]) k128_l4 (s128_l4 f b (k+1:Nat) [f] [x]) True:=by
 refine Way.of (fun J=>e128_l4 J f b k [f] [x]) ?_
 have w:IntKind.i64.wrap ((k:Int)+1)=((k+1:Nat):Int):=wrap_nat (by omega) (by omega)
 simp only [List.getD_cons_zero,Int.toNat_natCast,w]
 repeat' first|refine tree_qt (fun _=> ?_) (fun _=> ?_)|refine tree_qf (fun _=> ?_) (fun _=> ?_)|refine tree_nt (fun _=> ?_) (fun _=> ?_)|refine tree_nf (fun _=> ?_) (fun _=> ?_)|refine tree_et (fun _=> ?_) (fun _=> ?_)|refine tree_ef (fun _=> ?_) (fun _=> ?_)|refine tree_dt (fun _=> ?_) (fun _=> ?_)|refine tree_df (fun _=> ?_) (fun _=> ?_)|refine tree_bt (fun _=> ?_) (fun _=> ?_)|refine tree_bf (fun _=> ?_) (fun _=> ?_)|refine tree_ite (fun _=> ?_) (fun _=> ?_)
 all_goals first|exact WayT.no (fun J=>rfl)|exact WayT.yes (fun J=>rfl) (trivial)|(exfalso;omega)
theorem Flows.b (h:flowPre f) {b:Nat} (hb:b<f.blocks.length):Way C128 U128 (R128 f) (rD false) k128_l0 (s128_l0 f b [f]) k128_l0 (s128_l0 f (b+1:Nat) [f]) (0<(f.blocks.getD b (Block.mk [])).ins.length):=by
 obtain ⟨hf,hq⟩:=h
 have h0:=hf.2.1
 have h1:=hf.b hb
 refine (Way.trans (k':=k128_l2) (s':=s128_l2 f b (f.blocks.getD b (Block.mk [])).ins (0:Nat) [f]) (Q:=0<(f.blocks.getD b (Block.mk [])).ins.length) (Q':=True) ?_ fun hn=> ?_).mono fun q=>q.1
 ·refine Way.of (fun J=>e128_l0 J f b [f]) ?_
  simp only [List.getD_cons_zero,Int.toNat_natCast]
  repeat' first|refine tree_qt (fun _=> ?_) (fun _=> ?_)|refine tree_qf (fun _=> ?_) (fun _=> ?_)|refine tree_nt (fun _=> ?_) (fun _=> ?_)|refine tree_nf (fun _=> ?_) (fun _=> ?_)|refine tree_et (fun _=> ?_) (fun _=> ?_)|refine tree_ef (fun _=> ?_) (fun _=> ?_)|refine tree_dt (fun _=> ?_) (fun _=> ?_)|refine tree_df (fun _=> ?_) (fun _=> ?_)|refine tree_bt (fun _=> ?_) (fun _=> ?_)|refine tree_bf (fun _=> ?_) (fun _=> ?_)|refine tree_ite (fun _=> ?_) (fun _=> ?_)
  all_goals first|exact WayT.no (fun J=>rfl)|exact WayT.yes (fun J=>rfl) (by omega)|(exfalso;omega)
 have hx:=hq b hb _ (show (f.blocks.getD b (Block.mk [])).ins.length-1<_ by omega)
 have hx2:=((hf.2.2 _ (getD_mem (d:=(Block.mk [])) hb)).2 _ (getD_mem (d:=(Ins.mk 0 0 0 0 0 [] [])) (show (f.blocks.getD b (Block.mk [])).ins.length-1<_ by omega))).2
 have wl:IntKind.i64.wrap (((f.blocks.getD b (Block.mk [])).ins.length:Int)-1)=(((f.blocks.getD b (Block.mk [])).ins.length-1:Nat):Int):=wrap_nat (by omega) (by omega)
 have ww:IntKind.i64.wrap ((b:Int)+1)=((b+1:Nat):Int):=wrap_nat (by omega) (by omega)
 refine (Way.trans (k':=k128_l4) (s':=s128_l4 f b (0:Nat) [f] [(f.blocks.getD b (Block.mk [])).ins.getD ((f.blocks.getD b (Block.mk [])).ins.length-1) (Ins.mk 0 0 0 0 0 [] [])]) (((Way.upto (fun k=>s128_l2 f b (f.blocks.getD b (Block.mk [])).ins k [f]) _ (fun _=>True) (fun k hk _=>Flows.i h1 hk) _ (Nat.le_refl _)).mono fun _=>trivial).then fun _=> ?_) (Q:=True) (Q':=True) fun _=> ?_).mono fun _=>trivial
 ·refine Goes.trans (k':=k128_j2) (s':=s128_j2 f b (f.blocks.getD b (Block.mk [])).ins [f]) (.step fun J=> ?_) (.step fun J=> ?_)
  ·rw [e128_l2]
   simp (disch:=first|omega|assumption|(rw [dT];omega)|(rw [dF];omega)) only [↓iP,↓iN,iT,iF,wrap_up,tN,Nat.zero_add]
  ·rw [e128_j2,wl]
   simp only [Int.toNat_natCast]
   simp (disch:=first|omega|assumption|(rw [dT];omega)|(rw [dF];omega)) only [↓iP,↓iN,iT,iF,wrap_up,tN,Nat.zero_add]
   rfl
 generalize (f.blocks.getD b (Block.mk [])).ins.getD ((f.blocks.getD b (Block.mk [])).ins.length-1) (Ins.mk 0 0 0 0 0 [] [])=x at*
 refine (Way.trans (k':=k128_j4) (s':=s128_j4 f b [f] [x]) (((Way.upto (fun k=>s128_l4 f b k [f] [x]) _ (fun _=>True) (fun k hk _=>Flows.n hx2 hk) _ (Nat.le_refl _)).mono fun _=>trivial).then fun _=> ?_) (Q:=True) (Q':=True) fun _=> ?_).mono fun _=>trivial
 ·refine .step fun J=> ?_
  rw [e128_l4]
  simp only [List.getD_cons_zero]
  simp (disch:=first|omega|assumption|(rw [dT];omega)|(rw [dF];omega)) only [↓iP,↓iN,iT,iF,wrap_up,tN,Nat.zero_add]
 have hi:x.op=28→x.into.length=2:=fun e=>by
  have:=hx.1.2.2.2.2.2.1
  rw [e] at this
  have:=this (by decide)
  have e2:markI 28=2:=rfl
  omega
 refine (Way.of (k':=k128_j1) (s':=s128_j1 f b [f]) (fun J=>e128_j4 J f b [f] [x]) ?_).then fun _=> .step fun J=>by rw [e128_j1,ww]
 simp only [List.getD_cons_zero]
 repeat' first|refine tree_qt (fun _=> ?_) (fun _=> ?_)|refine tree_qf (fun _=> ?_) (fun _=> ?_)|refine tree_nt (fun _=> ?_) (fun _=> ?_)|refine tree_nf (fun _=> ?_) (fun _=> ?_)|refine tree_et (fun _=> ?_) (fun _=> ?_)|refine tree_ef (fun _=> ?_) (fun _=> ?_)|refine tree_dt (fun _=> ?_) (fun _=> ?_)|refine tree_df (fun _=> ?_) (fun _=> ?_)|refine tree_bt (fun _=> ?_) (fun _=> ?_)|refine tree_bf (fun _=> ?_) (fun _=> ?_)|refine tree_ite (fun _=> ?_) (fun _=> ?_)
 all_goals first|exact WayT.no (fun J=>rfl)|exact WayT.yes (fun J=>rfl) trivial|(exfalso;omega)
theorem Flows.p {b k:Nat} {l:List Ev.Ins} (hl:l.length≤1000) (hk:k<l.length) (hb:b<(prevL f).length) (hi:(l.getD k (Ins.mk 0 0 0 0 0 [] [])).into.length≤1000):Way C128 U128 (R128 f) (rD false) k128_l8 (s128_l8 f (reachL f) (prevL f) b l k [f]) k128_l8 (s128_l8 f (reachL f) (prevL f) b l (k+1:Nat) [f]) ((l.getD k (Ins.mk 0 0 0 0 0 [] [])).op=26→b≠0∧(l.getD k (Ins.mk 0 0 0 0 0 [] [])).into=(prevL f).getD b []):=by
 refine Way.of (fun J=>e128_l8 J f (reachL f) (prevL f) b l k [f]) ?_
 have w:IntKind.i64.wrap ((k:Int)+1)=((k+1:Nat):Int):=wrap_nat (by omega) (by omega)
 simp only [List.getD_cons_zero,Int.toNat_natCast,w]
 repeat' first|refine tree_qt (fun _=> ?_) (fun _=> ?_)|refine tree_qf (fun _=> ?_) (fun _=> ?_)|refine tree_nt (fun _=> ?_) (fun _=> ?_)|refine tree_nf (fun _=> ?_) (fun _=> ?_)|refine tree_et (fun _=> ?_) (fun _=> ?_)|refine tree_ef (fun _=> ?_) (fun _=> ?_)|refine tree_dt (fun _=> ?_) (fun _=> ?_)|refine tree_df (fun _=> ?_) (fun _=> ?_)|refine tree_bt (fun _=> ?_) (fun _=> ?_)|refine tree_bf (fun _=> ?_) (fun _=> ?_)|refine tree_ite (fun _=> ?_) (fun _=> ?_)
 all_goals first|exact WayT.no (fun J=>rfl)|exact WayT.yes (fun J=>rfl) (fun _=>⟨by omega,same3_eq ‹_›⟩)|(exfalso;omega)|exact WayT.yes (fun J=>rfl) (fun e=>absurd e (by omega))
theorem Flows.r (h:flowPre f) {b:Nat} (hb:b<f.blocks.length):Way C128 U128 (R128 f) (rD false) k128_l6 (s128_l6 f (reachL f) (prevL f) b [f]) k128_l6 (s128_l6 f (reachL f) (prevL f) (b+1:Nat) [f]) (∀k,k<(f.blocks.getD b (Block.mk [])).ins.length→((f.blocks.getD b (Block.mk [])).ins.getD k (Ins.mk 0 0 0 0 0 [] [])).op=26→b≠0∧((f.blocks.getD b (Block.mk [])).ins.getD k (Ins.mk 0 0 0 0 0 [] [])).into=(prevL f).getD b []):=by
 obtain ⟨hf,hq⟩:=h
 have h0:=hf.2.1
 have h1:=hf.b hb
 have hr:(reachL f).length=f.blocks.length:=(fromL_ok hf 0 (-1)).1
 have hp:(prevL f).length=f.blocks.length:=(prevL_in hf).1
 have ww:IntKind.i64.wrap ((b:Int)+1)=((b+1:Nat):Int):=wrap_nat (by omega) (by omega)
 refine (Way.trans (k':=k128_l8) (s':=s128_l8 f (reachL f) (prevL f) b (f.blocks.getD b (Block.mk [])).ins (0:Nat) [f]) (Q:=True) ?_ fun _=> ?_).mono fun q=>q.2
 ·refine Way.of (fun J=>e128_l6 J f (reachL f) (prevL f) b [f]) ?_
  simp only [List.getD_cons_zero,Int.toNat_natCast]
  repeat' first|refine tree_qt (fun _=> ?_) (fun _=> ?_)|refine tree_qf (fun _=> ?_) (fun _=> ?_)|refine tree_nt (fun _=> ?_) (fun _=> ?_)|refine tree_nf (fun _=> ?_) (fun _=> ?_)|refine tree_et (fun _=> ?_) (fun _=> ?_)|refine tree_ef (fun _=> ?_) (fun _=> ?_)|refine tree_dt (fun _=> ?_) (fun _=> ?_)|refine tree_df (fun _=> ?_) (fun _=> ?_)|refine tree_bt (fun _=> ?_) (fun _=> ?_)|refine tree_bf (fun _=> ?_) (fun _=> ?_)|refine tree_ite (fun _=> ?_) (fun _=> ?_)
  all_goals first|exact WayT.no (fun J=>rfl)|exact WayT.yes (fun J=>rfl) (trivial)|(exfalso;omega)
 refine (Way.upto (fun k=>s128_l8 f (reachL f) (prevL f) b (f.blocks.getD b (Block.mk [])).ins k [f]) _ _ (fun k hk _=>Flows.p h1 hk (by omega) ((hf.2.2 _ (getD_mem (d:=(Block.mk [])) hb)).2 _ (getD_mem (d:=(Ins.mk 0 0 0 0 0 [] [])) hk)).2) _ (Nat.le_refl _)).then fun _=> ?_
 refine Goes.trans (k':=k128_j8) (s':=s128_j8 f (reachL f) (prevL f) b [f]) (.step fun J=> ?_) (.trans (.step fun J=>e128_j8 ..) (.step fun J=> ?_))
 ·rw [e128_l8]
  simp (disch:=first|omega|assumption|(rw [dT];omega)|(rw [dF];omega)) only [↓iP,↓iN,iT,iF,wrap_up,tN,Nat.zero_add]
 ·rw [e128_j7,ww]
theorem flows_ok (h:flowPre f): ∃b,Tells 128 (a128 f) [.dead] (FlowQ f) b:=by
 have hf:=h.1
 have e0:(Func.mk f.name f.out f.params f.result f.blocks)=f:=rfl
 have:Says C128 U128 (R128 f) rD [.code b128] ⟨slotsA (a128 f) 0 0,heapA (a128 f)⟩ (FlowQ f):=by
  refine Goes.says (k':=k128_l0) (s':=s128_l0 f (0:Nat) [f]) (.step fun J=>e128 ..) ?_
  refine Way.says (Way.upto (fun b=>s128_l0 f b [f]) _ _ (fun b hb _=>Flows.b h hb) _ (Nat.le_refl _)) fun _=> ?_
  refine Goes.says (k':=k128_l6) (s':=s128_l6 f (reachL f) (prevL f) (0:Nat) [f]) (.trans (k':=k128_j0) (s':=s128_j0 f [f]) (.step fun J=> ?_) (.step fun J=> ?_)) ?_
  ·rw [e128_l0]
   simp only [List.getD_cons_zero]
   simp (disch:=first|omega|assumption|(rw [dT];omega)|(rw [dF];omega)) only [↓iP,↓iN,iT,iF,wrap_up,tN,Nat.zero_add]
  ·rw [e128_j0]
   simp only [List.getD_cons_zero]
   rw [e0]
   simp (disch:=first|omega|assumption|(rw [dT];omega)|(rw [dF];omega)) only [↓iP,↓iN,iT,iF,wrap_up,tN,Nat.zero_add,hf]
   rfl
  refine (Way.says (Q':=True) (Way.upto (fun b=>s128_l6 f (reachL f) (prevL f) b [f]) _ _ (fun b hb _=>Flows.r h hb) _ (Nat.le_refl _)) fun _=> ?_).mono fun q=>q.1
  refine Goes.says (k':=k128_j6) (s':=s128_j6 f) (.step fun J=> ?_) (.yes (.step fun J=>e128_j6 ..) trivial)
  rw [e128_l6]
  simp only [List.getD_cons_zero]
  simp (disch:=first|omega|assumption|(rw [dT];omega)|(rw [dF];omega)) only [↓iP,↓iN,iT,iF,wrap_up,tN,Nat.zero_add]
 obtain ⟨b,h1,h2⟩:=this
 exact ⟨b,fn128 f h1,h2⟩
end
noncomputable def flowsB (f:Ev.Func):Bool:=told 128 (a128 f) [.dead] (FlowQ f)
theorem flowsB_ok (f:Ev.Func) (h:flowPre f):CallOk tb Try.prog 128 (a128 f) (.v (.bool (flowsB f))) [.dead]:=(told_ok (flows_ok h)).1
noncomputable def S128:List (AV Ty)→T (AV Ty×List (AV Ty))
 |[.agg x]=>match cod33.dec false x with
  |some f=> .ite (flowPre f) (Classical.propDecidable _) (.ret (.v (.bool (flowsB f)),[.dead])) .fail
  |none=> .fail
 |_=> .fail
theorem S128_ok (l:List (AV Ty)) (r:AV Ty) (outs:List (AV Ty)) (h:(S128 l).val=some (r,outs)):CallOk tb Try.prog 128 l r outs:=by
 unfold S128 at h
 split at h
 ·rename_i x
  split at h
  ·rename_i f e1
   rcases ite_val h with ⟨e,h⟩|⟨_,h⟩
   ·cases h
    have h1:=cod33_ok.dec false x f e1
    subst h1
    exact flowsB_ok f e
   ·cases h
  ·cases h
 ·cases h
end Go.Proofs.Ytggibjbcbicpjaa.Ev
namespace Go.Proofs.Ytggibjbcbicpjaa.Ev
open Go
set_option linter.unusedVariables false
set_option linter.unusedSimpArgs false
def usesPre (f:Ev.Func):Prop:=wherePre f∧FnQ f∧FlowQ f
def ToQ (f:Ev.Func):Prop:= ∀b,b<f.blocks.length→ ∀k,k<(f.blocks.getD b (Block.mk [])).ins.length→((f.blocks.getD b (Block.mk [])).ins.getD k (Ins.mk 0 0 0 0 0 [] [])).type_≠0→((f.blocks.getD b (Block.mk [])).ins.getD k (Ins.mk 0 0 0 0 0 [] [])).to_=loc f b (k+1)
def ArgQ (f:Ev.Func):Prop:= ∀b,b<f.blocks.length→ ∀k,k<(f.blocks.getD b (Block.mk [])).ins.length→ ∀j,j<((f.blocks.getD b (Block.mk [])).ins.getD k (Ins.mk 0 0 0 0 0 [] [])).args.length→1≤((f.blocks.getD b (Block.mk [])).ins.getD k (Ins.mk 0 0 0 0 0 [] [])).args.getD j 0∧((f.blocks.getD b (Block.mk [])).ins.getD k (Ins.mk 0 0 0 0 0 [] [])).args.getD j 0<(typesOf f).length
theorem loc_end {f:Ev.Func} (hf:okF f):loc f f.blocks.length 0+1=(typesOf f).length:=by
 rw [loc_zero,List.take_length,(types_len hf).1]
 omega
noncomputable def b129:Code:=bodyOf Try.f129
noncomputable def C129:Cfg Ty:=⟨fun
 |153=>some ([],S153)
 |154=>some ([],S154)
 |_=>none,fun _=>false,154,0⟩
def U129:Cuts:=⟨fun
 |0=>some [(1,none),(3,none)]
 |1=>some [(1,none),(3,none),(4,none)]
 |2=>some [(1,none),(3,none),(4,none)]
 |4=>some []
 |5=>some [(1,none),(3,none),(7,none),(8,none),(9,none)]
 |6=>some [(1,none),(3,none),(7,none),(8,none),(9,none)]
 |7=>some [(1,none),(3,none),(7,none),(8,none),(9,none),(10,none)]
 |8=>some [(1,none),(3,none),(7,none),(8,none),(9,none),(10,none)]
 |9=>some [(1,none),(3,none),(7,none),(8,none),(9,none),(10,none),(11,none),(12,none)]
 |_=>none,fun
 |0=>some [(1,none),(3,none),(4,none)]
 |2=>some [(1,none),(3,none),(4,none),(5,none)]
 |4=>some [(1,none),(3,none),(7,none),(8,none),(9,none)]
 |6=>some [(1,none),(3,none),(7,none),(8,none),(9,none),(10,none)]
 |8=>some [(1,none),(3,none),(7,none),(8,none),(9,none),(10,none),(11,none),(12,none)]
 |_=>none,fun _=>none⟩
noncomputable def k129_j0:List Item:=[.code (sndC (sndC (sndC b129)))]
noncomputable def k129_l0:List Item:=[.code (inC (inC (sndC (fstC (sndC (sndC b129)))))), .inLoop (inC (inC (sndC (fstC (sndC (sndC b129)))))), .inBlock 0, .code (sndC (sndC (sndC b129)))]
noncomputable def k129_j1:List Item:=[.code (sndC (sndC (inC (inC (sndC (fstC (sndC (sndC b129)))))))), .inLoop (inC (inC (sndC (fstC (sndC (sndC b129)))))), .inBlock 0, .code (sndC (sndC (sndC b129)))]
noncomputable def k129_j2:List Item:=[.inBlock 1, .code (sndC (sndC (inC (inC (sndC (fstC (sndC (sndC b129)))))))), .inLoop (inC (inC (sndC (fstC (sndC (sndC b129)))))), .inBlock 0, .code (sndC (sndC (sndC b129)))]
noncomputable def k129_l2:List Item:=[.code (inC (inC (sndC (inC (fstC (sndC (inC (inC (sndC (fstC (sndC (sndC b129)))))))))))), .inLoop (inC (inC (sndC (inC (fstC (sndC (inC (inC (sndC (fstC (sndC (sndC b129)))))))))))), .inBlock 2, .inBlock 1, .code (sndC (sndC (inC (inC (sndC (fstC (sndC (sndC b129)))))))), .inLoop (inC (inC (sndC (fstC (sndC (sndC b129)))))), .inBlock 0, .code (sndC (sndC (sndC b129)))]
noncomputable def k129_j4:List Item:=[.code (sndC (sndC (sndC (sndC (sndC (sndC b129))))))]
noncomputable def k129_l4:List Item:=[.code (inC (inC (sndC (fstC (sndC (sndC (sndC (sndC (sndC b129))))))))), .inLoop (inC (inC (sndC (fstC (sndC (sndC (sndC (sndC (sndC b129))))))))), .inBlock 4, .code (sndC (sndC (sndC (sndC (sndC (sndC b129))))))]
noncomputable def k129_j5:List Item:=[.code (sndC (sndC (inC (inC (sndC (fstC (sndC (sndC (sndC (sndC (sndC b129))))))))))), .inLoop (inC (inC (sndC (fstC (sndC (sndC (sndC (sndC (sndC b129))))))))), .inBlock 4, .code (sndC (sndC (sndC (sndC (sndC (sndC b129))))))]
noncomputable def k129_j6:List Item:=[.inBlock 5, .code (sndC (sndC (inC (inC (sndC (fstC (sndC (sndC (sndC (sndC (sndC b129))))))))))), .inLoop (inC (inC (sndC (fstC (sndC (sndC (sndC (sndC (sndC b129))))))))), .inBlock 4, .code (sndC (sndC (sndC (sndC (sndC (sndC b129))))))]
noncomputable def k129_l6:List Item:=[.code (inC (inC (sndC (inC (fstC (sndC (inC (inC (sndC (fstC (sndC (sndC (sndC (sndC (sndC b129))))))))))))))), .inLoop (inC (inC (sndC (inC (fstC (sndC (inC (inC (sndC (fstC (sndC (sndC (sndC (sndC (sndC b129))))))))))))))), .inBlock 6, .inBlock 5, .code (sndC (sndC (inC (inC (sndC (fstC (sndC (sndC (sndC (sndC (sndC b129))))))))))), .inLoop (inC (inC (sndC (fstC (sndC (sndC (sndC (sndC (sndC b129))))))))), .inBlock 4, .code (sndC (sndC (sndC (sndC (sndC (sndC b129))))))]
noncomputable def k129_j7:List Item:=[.code (sndC (sndC (inC (inC (sndC (inC (fstC (sndC (inC (inC (sndC (fstC (sndC (sndC (sndC (sndC (sndC b129))))))))))))))))), .inLoop (inC (inC (sndC (inC (fstC (sndC (inC (inC (sndC (fstC (sndC (sndC (sndC (sndC (sndC b129))))))))))))))), .inBlock 6, .inBlock 5, .code (sndC (sndC (inC (inC (sndC (fstC (sndC (sndC (sndC (sndC (sndC b129))))))))))), .inLoop (inC (inC (sndC (fstC (sndC (sndC (sndC (sndC (sndC b129))))))))), .inBlock 4, .code (sndC (sndC (sndC (sndC (sndC (sndC b129))))))]
noncomputable def k129_j8:List Item:=[.inBlock 7, .code (sndC (sndC (inC (inC (sndC (inC (fstC (sndC (inC (inC (sndC (fstC (sndC (sndC (sndC (sndC (sndC b129))))))))))))))))), .inLoop (inC (inC (sndC (inC (fstC (sndC (inC (inC (sndC (fstC (sndC (sndC (sndC (sndC (sndC b129))))))))))))))), .inBlock 6, .inBlock 5, .code (sndC (sndC (inC (inC (sndC (fstC (sndC (sndC (sndC (sndC (sndC b129))))))))))), .inLoop (inC (inC (sndC (fstC (sndC (sndC (sndC (sndC (sndC b129))))))))), .inBlock 4, .code (sndC (sndC (sndC (sndC (sndC (sndC b129))))))]
noncomputable def k129_l8:List Item:=[.code (inC (inC (sndC (sndC (inC (fstC (sndC (inC (inC (sndC (inC (fstC (sndC (inC (inC (sndC (fstC (sndC (sndC (sndC (sndC (sndC b129)))))))))))))))))))))), .inLoop (inC (inC (sndC (sndC (inC (fstC (sndC (inC (inC (sndC (inC (fstC (sndC (inC (inC (sndC (fstC (sndC (sndC (sndC (sndC (sndC b129)))))))))))))))))))))), .inBlock 8, .inBlock 7, .code (sndC (sndC (inC (inC (sndC (inC (fstC (sndC (inC (inC (sndC (fstC (sndC (sndC (sndC (sndC (sndC b129))))))))))))))))), .inLoop (inC (inC (sndC (inC (fstC (sndC (inC (inC (sndC (fstC (sndC (sndC (sndC (sndC (sndC b129))))))))))))))), .inBlock 6, .inBlock 5, .code (sndC (sndC (inC (inC (sndC (fstC (sndC (sndC (sndC (sndC (sndC b129))))))))))), .inLoop (inC (inC (sndC (fstC (sndC (sndC (sndC (sndC (sndC b129))))))))), .inBlock 4, .code (sndC (sndC (sndC (sndC (sndC (sndC b129))))))]
noncomputable def k129_j9:List Item:=[.code (sndC (sndC (inC (inC (sndC (sndC (inC (fstC (sndC (inC (inC (sndC (inC (fstC (sndC (inC (inC (sndC (fstC (sndC (sndC (sndC (sndC (sndC b129)))))))))))))))))))))))), .inLoop (inC (inC (sndC (sndC (inC (fstC (sndC (inC (inC (sndC (inC (fstC (sndC (inC (inC (sndC (fstC (sndC (sndC (sndC (sndC (sndC b129)))))))))))))))))))))), .inBlock 8, .inBlock 7, .code (sndC (sndC (inC (inC (sndC (inC (fstC (sndC (inC (inC (sndC (fstC (sndC (sndC (sndC (sndC (sndC b129))))))))))))))))), .inLoop (inC (inC (sndC (inC (fstC (sndC (inC (inC (sndC (fstC (sndC (sndC (sndC (sndC (sndC b129))))))))))))))), .inBlock 6, .inBlock 5, .code (sndC (sndC (inC (inC (sndC (fstC (sndC (sndC (sndC (sndC (sndC b129))))))))))), .inLoop (inC (inC (sndC (fstC (sndC (sndC (sndC (sndC (sndC b129))))))))), .inBlock 4, .code (sndC (sndC (sndC (sndC (sndC (sndC b129))))))]
def a129 (f:Func):List (AV Ty):=[.agg [.v (.string f.name), .v (.bool f.out), .sl false (3:Nat) f.params, .v (.int .i64 f.result), .sl false (44:Nat) f.blocks]]
noncomputable def R129 (f:Func):St Ty→EvR:=resT tb C129 Try.f129.results.toList .keep (a129 f)
def s129_l0 (f:Func) (v3:Int) (v4:Int) (h0:List Func):St Ty:=St.mk [(1, .ptr (0) [] (0) (0)),(3, .v (.int .i64 v3)),(4, .v (.int .i64 v4))] [some (Root.mk (33) false h0)]
def s129_l2 (f:Func) (v3:Int) (v4:Int) (v5:Int) (h0:List Func):St Ty:=St.mk [(1, .ptr (0) [] (0) (0)),(3, .v (.int .i64 v3)),(4, .v (.int .i64 v4)),(5, .v (.int .i64 v5))] [some (Root.mk (33) false h0)]
def s129_j0 (f:Func) (v3:Int) (h0:List Func):St Ty:=St.mk [(1, .ptr (0) [] (0) (0)),(3, .v (.int .i64 v3))] [some (Root.mk (33) false h0)]
def s129_j2 (f:Func) (v3:Int) (v4:Int) (h0:List Func):St Ty:=St.mk [(1, .ptr (0) [] (0) (0)),(3, .v (.int .i64 v3)),(4, .v (.int .i64 v4))] [some (Root.mk (33) false h0)]
def s129_l4 (f:Func) (v3:Int) (v7:List S162) (v8:List (List Bool)) (v9:Int) (h0:List Func):St Ty:=St.mk [(1, .ptr (0) [] (0) (0)),(3, .v (.int .i64 v3)),(7, .sl false (162) v7),(8, .sl false (71) v8),(9, .v (.int .i64 v9))] [some (Root.mk (33) false h0)]
def s129_j1 (f:Func) (v3:Int) (v4:Int) (h0:List Func):St Ty:=St.mk [(1, .ptr (0) [] (0) (0)),(3, .v (.int .i64 v3)),(4, .v (.int .i64 v4))] [some (Root.mk (33) false h0)]
def s129_l6 (f:Func) (v3:Int) (v7:List S162) (v8:List (List Bool)) (v9:Int) (v10:Int) (h0:List Func):St Ty:=St.mk [(1, .ptr (0) [] (0) (0)),(3, .v (.int .i64 v3)),(7, .sl false (162) v7),(8, .sl false (71) v8),(9, .v (.int .i64 v9)),(10, .v (.int .i64 v10))] [some (Root.mk (33) false h0)]
def s129_j4 (f:Func):St Ty:=St.mk [] []
def s129_l8 (f:Func) (v3:Int) (v7:List S162) (v8:List (List Bool)) (v9:Int) (v10:Int) (v12:Int) (h0:List Func) (h1:List Ins):St Ty:=St.mk [(1, .ptr (0) [] (0) (0)),(3, .v (.int .i64 v3)),(7, .sl false (162) v7),(8, .sl false (71) v8),(9, .v (.int .i64 v9)),(10, .v (.int .i64 v10)),(11, .ptr (1) [] (0) (0)),(12, .v (.int .i64 v12))] [some (Root.mk (33) false h0),some (Root.mk (46) false h1)]
def s129_j6 (f:Func) (v3:Int) (v7:List S162) (v8:List (List Bool)) (v9:Int) (h0:List Func):St Ty:=St.mk [(1, .ptr (0) [] (0) (0)),(3, .v (.int .i64 v3)),(7, .sl false (162) v7),(8, .sl false (71) v8),(9, .v (.int .i64 v9))] [some (Root.mk (33) false h0)]
def s129_j9 (f:Func) (v3:Int) (v7:List S162) (v8:List (List Bool)) (v9:Int) (v10:Int) (v12:Int) (h0:List Func) (h1:List Ins):St Ty:=St.mk [(1, .ptr (0) [] (0) (0)),(3, .v (.int .i64 v3)),(7, .sl false (162) v7),(8, .sl false (71) v8),(9, .v (.int .i64 v9)),(10, .v (.int .i64 v10)),(11, .ptr (1) [] (0) (0)),(12, .v (.int .i64 v12))] [some (Root.mk (33) false h0),some (Root.mk (46) false h1)]
def s129_j8 (f:Func) (v3:Int) (v7:List S162) (v8:List (List Bool)) (v9:Int) (v10:Int) (h0:List Func):St Ty:=St.mk [(1, .ptr (0) [] (0) (0)),(3, .v (.int .i64 v3)),(7, .sl false (162) v7),(8, .sl false (71) v8),(9, .v (.int .i64 v9)),(10, .v (.int .i64 v10))] [some (Root.mk (33) false h0)]
def s129_j5 (f:Func) (v3:Int) (v7:List S162) (v8:List (List Bool)) (v9:Int) (h0:List Func):St Ty:=St.mk [(1, .ptr (0) [] (0) (0)),(3, .v (.int .i64 v3)),(7, .sl false (162) v7),(8, .sl false (71) v8),(9, .v (.int .i64 v9))] [some (Root.mk (33) false h0)]
def s129_j7 (f:Func) (v3:Int) (v7:List S162) (v8:List (List Bool)) (v9:Int) (v10:Int) (h0:List Func):St Ty:=St.mk [(1, .ptr (0) [] (0) (0)),(3, .v (.int .i64 v3)),(7, .sl false (162) v7),(8, .sl false (71) v8),(9, .v (.int .i64 v9)),(10, .v (.int .i64 v10))] [some (Root.mk (33) false h0)]
theorem e129 (J f):run tb C129 U129 J (R129 f) 4096 [.code b129] ⟨slotsA (a129 f) 0 0,heapA (a129 f)⟩=
 J k129_l0 (s129_l0 f ((↑f.params.length:Int)) 0 ([Func.mk f.name f.out f.params f.result f.blocks])):=by kernel_rfl
theorem e129_l0 (J f v3 v4 h0):run tb C129 U129 J (R129 f) 4096 k129_l0 (s129_l0 f v3 v4 h0)=
 if decide (v4<(↑(h0.getD (0) (Func.mk ByteArray.empty false [] 0 [])).blocks.length:Int))=true then
 J k129_l2 (s129_l2 f v3 v4 0 h0)
 else
 J k129_j0 (s129_j0 f v3 h0):=by kernel_rfl
theorem e129_l2 (J f v3 v4 v5 h0):run tb C129 U129 J (R129 f) 4096 k129_l2 (s129_l2 f v3 v4 v5 h0)=
 if 0≤v4 then
 if v4<(↑(h0.getD (0) (Func.mk ByteArray.empty false [] 0 [])).blocks.length:Int) then
 if decide (v5<(↑((h0.getD (0) (Func.mk ByteArray.empty false [] 0 [])).blocks.getD v4.toNat (Block.mk [])).ins.length:Int))=true then
 if 0≤v4 then
 if v4<(↑(h0.getD (0) (Func.mk ByteArray.empty false [] 0 [])).blocks.length:Int) then
 if 0≤v5 then
 if v5<(↑((h0.getD (0) (Func.mk ByteArray.empty false [] 0 [])).blocks.getD v4.toNat (Block.mk [])).ins.length:Int) then
 if ((rdI (h0.getD (0) (Func.mk ByteArray.empty false [] 0 [])).blocks v4.toNat v5.toNat).type_ != 0)=true then
 if ((rdI (h0.getD (0) (Func.mk ByteArray.empty false [] 0 [])).blocks v4.toNat v5.toNat).to_ != IntKind.i64.wrap (v3+1))=true then
 some (.v (.bool false),[.dead])
 else
 J k129_l2 (s129_l2 f (IntKind.i64.wrap (v3+1)) v4 (IntKind.i64.wrap (v5+1)) h0)
 else
 J k129_l2 (s129_l2 f v3 v4 (IntKind.i64.wrap (v5+1)) h0)
 else none
 else none
 else none
 else none
 else
 J k129_j2 (s129_j2 f v3 v4 h0)
 else none
 else none:=by kernel_rfl
theorem e129_j0 (J f v3 h0):run tb C129 U129 J (R129 f) 4096 k129_j0 (s129_j0 f v3 h0)=
 if wherePre (Func.mk (h0.getD (0) (Func.mk ByteArray.empty false [] 0 [])).name (h0.getD (0) (Func.mk ByteArray.empty false [] 0 [])).out (h0.getD (0) (Func.mk ByteArray.empty false [] 0 [])).params (h0.getD (0) (Func.mk ByteArray.empty false [] 0 [])).result (h0.getD (0) (Func.mk ByteArray.empty false [] 0 [])).blocks) then
 if okF (Func.mk (h0.getD (0) (Func.mk ByteArray.empty false [] 0 [])).name (h0.getD (0) (Func.mk ByteArray.empty false [] 0 [])).out (h0.getD (0) (Func.mk ByteArray.empty false [] 0 [])).params (h0.getD (0) (Func.mk ByteArray.empty false [] 0 [])).result (h0.getD (0) (Func.mk ByteArray.empty false [] 0 [])).blocks) then
 J k129_l4 (s129_l4 f v3 (whereL (Func.mk (h0.getD (0) (Func.mk ByteArray.empty false [] 0 [])).name (h0.getD (0) (Func.mk ByteArray.empty false [] 0 [])).out (h0.getD (0) (Func.mk ByteArray.empty false [] 0 [])).params (h0.getD (0) (Func.mk ByteArray.empty false [] 0 [])).result (h0.getD (0) (Func.mk ByteArray.empty false [] 0 [])).blocks)) (domsL (Func.mk (h0.getD (0) (Func.mk ByteArray.empty false [] 0 [])).name (h0.getD (0) (Func.mk ByteArray.empty false [] 0 [])).out (h0.getD (0) (Func.mk ByteArray.empty false [] 0 [])).params (h0.getD (0) (Func.mk ByteArray.empty false [] 0 [])).result (h0.getD (0) (Func.mk ByteArray.empty false [] 0 [])).blocks)) 0 h0)
 else none
 else none:=by kernel_rfl
theorem e129_j2 (J f v3 v4 h0):run tb C129 U129 J (R129 f) 4096 k129_j2 (s129_j2 f v3 v4 h0)=
 J k129_j1 (s129_j1 f v3 v4 h0):=by kernel_rfl
theorem e129_l4 (J f v3 v7 v8 v9 h0):run tb C129 U129 J (R129 f) 4096 k129_l4 (s129_l4 f v3 v7 v8 v9 h0)=
 if decide (v9<(↑(h0.getD (0) (Func.mk ByteArray.empty false [] 0 [])).blocks.length:Int))=true then
 J k129_l6 (s129_l6 f v3 v7 v8 v9 0 h0)
 else
 J k129_j4 (s129_j4 f):=by kernel_rfl
theorem e129_j1 (J f v3 v4 h0):run tb C129 U129 J (R129 f) 4096 k129_j1 (s129_j1 f v3 v4 h0)=
 J k129_l0 (s129_l0 f v3 (IntKind.i64.wrap (v4+1)) h0):=by kernel_rfl
theorem e129_l6 (J f v3 v7 v8 v9 v10 h0):run tb C129 U129 J (R129 f) 4096 k129_l6 (s129_l6 f v3 v7 v8 v9 v10 h0)=
 if 0≤v9 then
 if v9<(↑(h0.getD (0) (Func.mk ByteArray.empty false [] 0 [])).blocks.length:Int) then
 if decide (v10<(↑((h0.getD (0) (Func.mk ByteArray.empty false [] 0 [])).blocks.getD v9.toNat (Block.mk [])).ins.length:Int))=true then
 if 0≤v9 then
 if v9<(↑(h0.getD (0) (Func.mk ByteArray.empty false [] 0 [])).blocks.length:Int) then
 if 0≤v10 then
 if v10<(↑((h0.getD (0) (Func.mk ByteArray.empty false [] 0 [])).blocks.getD v9.toNat (Block.mk [])).ins.length:Int) then
 J k129_l8 (s129_l8 f v3 v7 v8 v9 v10 0 h0 ([Ins.mk (rdI (h0.getD (0) (Func.mk ByteArray.empty false [] 0 [])).blocks v9.toNat v10.toNat).op (rdI (h0.getD (0) (Func.mk ByteArray.empty false [] 0 [])).blocks v9.toNat v10.toNat).type_ (rdI (h0.getD (0) (Func.mk ByteArray.empty false [] 0 [])).blocks v9.toNat v10.toNat).to_ (rdI (h0.getD (0) (Func.mk ByteArray.empty false [] 0 [])).blocks v9.toNat v10.toNat).sym_ (rdI (h0.getD (0) (Func.mk ByteArray.empty false [] 0 [])).blocks v9.toNat v10.toNat).num (rdI (h0.getD (0) (Func.mk ByteArray.empty false [] 0 [])).blocks v9.toNat v10.toNat).args (rdI (h0.getD (0) (Func.mk ByteArray.empty false [] 0 [])).blocks v9.toNat v10.toNat).into]))
 else none
 else none
 else none
 else none
 else
 J k129_j6 (s129_j6 f v3 v7 v8 v9 h0)
 else none
 else none:=by kernel_rfl
theorem e129_j4 (J f):run tb C129 U129 J (R129 f) 4096 k129_j4 (s129_j4 f)=
 some (.v (.bool true),[.dead]):=by kernel_rfl
theorem e129_l8 (J f v3 v7 v8 v9 v10 v12 h0 h1):run tb C129 U129 J (R129 f) 4096 k129_l8 (s129_l8 f v3 v7 v8 v9 v10 v12 h0 h1)=
 if decide (v12<(↑(h1.getD (0) (Ins.mk 0 0 0 0 0 [] [])).args.length:Int))=true then
 if 0≤v12 then
 if v12<(↑(h1.getD (0) (Ins.mk 0 0 0 0 0 [] [])).args.length:Int) then
 if decide ((h1.getD (0) (Ins.mk 0 0 0 0 0 [] [])).args.getD v12.toNat 0<1)=false then
 if decide ((h1.getD (0) (Ins.mk 0 0 0 0 0 [] [])).args.getD v12.toNat 0>v3)=true then
 some (.v (.bool false),[.dead])
 else
 if 0≤(h1.getD (0) (Ins.mk 0 0 0 0 0 [] [])).args.getD v12.toNat 0 then
 if (h1.getD (0) (Ins.mk 0 0 0 0 0 [] [])).args.getD v12.toNat 0<(↑v7.length:Int) then
 if decide ((v7.getD (Int.toNat ((h1.getD (0) (Ins.mk 0 0 0 0 0 [] [])).args.getD v12.toNat 0)) (S162.mk 0 0)).a0<0)=true then
 J k129_j9 (s129_j9 f v3 v7 v8 v9 v10 v12 h0 h1)
 else
 if ((h1.getD (0) (Ins.mk 0 0 0 0 0 [] [])).op == 26)=true then
 if 0≤(v7.getD (Int.toNat ((h1.getD (0) (Ins.mk 0 0 0 0 0 [] [])).args.getD v12.toNat 0)) (S162.mk 0 0)).a0 then
 if (v7.getD (Int.toNat ((h1.getD (0) (Ins.mk 0 0 0 0 0 [] [])).args.getD v12.toNat 0)) (S162.mk 0 0)).a0<(↑v8.length:Int) then
 if 0≤v12 then
 if v12<(↑(h1.getD (0) (Ins.mk 0 0 0 0 0 [] [])).into.length:Int) then
 if 0≤(h1.getD (0) (Ins.mk 0 0 0 0 0 [] [])).into.getD v12.toNat 0 then
 if (h1.getD (0) (Ins.mk 0 0 0 0 0 [] [])).into.getD v12.toNat 0<(↑(List.length (v8.getD (v7.getD (Int.toNat ((h1.getD (0) (Ins.mk 0 0 0 0 0 [] [])).args.getD v12.toNat 0)) (S162.mk 0 0)).a0.toNat [])):Int) then
 if (!List.getD (v8.getD (v7.getD (Int.toNat ((h1.getD (0) (Ins.mk 0 0 0 0 0 [] [])).args.getD v12.toNat 0)) (S162.mk 0 0)).a0.toNat []) (Int.toNat ((h1.getD (0) (Ins.mk 0 0 0 0 0 [] [])).into.getD v12.toNat 0)) false)=true then
 some (.v (.bool false),[.dead])
 else
 J k129_j9 (s129_j9 f v3 v7 v8 v9 v10 v12 h0 h1)
 else none
 else none
 else none
 else none
 else none
 else none
 else
 if ((v7.getD (Int.toNat ((h1.getD (0) (Ins.mk 0 0 0 0 0 [] [])).args.getD v12.toNat 0)) (S162.mk 0 0)).a0 == v9)=true then
 if decide ((v7.getD (Int.toNat ((h1.getD (0) (Ins.mk 0 0 0 0 0 [] [])).args.getD v12.toNat 0)) (S162.mk 0 0)).a1≥v10)=false then
 if ((v7.getD (Int.toNat ((h1.getD (0) (Ins.mk 0 0 0 0 0 [] [])).args.getD v12.toNat 0)) (S162.mk 0 0)).a0 != v9)=true then
 if 0≤(v7.getD (Int.toNat ((h1.getD (0) (Ins.mk 0 0 0 0 0 [] [])).args.getD v12.toNat 0)) (S162.mk 0 0)).a0 then
 if (v7.getD (Int.toNat ((h1.getD (0) (Ins.mk 0 0 0 0 0 [] [])).args.getD v12.toNat 0)) (S162.mk 0 0)).a0<(↑v8.length:Int) then
 if 0≤v9 then
 if v9<(↑(List.length (v8.getD (v7.getD (Int.toNat ((h1.getD (0) (Ins.mk 0 0 0 0 0 [] [])).args.getD v12.toNat 0)) (S162.mk 0 0)).a0.toNat [])):Int) then
 if (!List.getD (v8.getD (v7.getD (Int.toNat ((h1.getD (0) (Ins.mk 0 0 0 0 0 [] [])).args.getD v12.toNat 0)) (S162.mk 0 0)).a0.toNat []) v9.toNat false)=true then
 some (.v (.bool false),[.dead])
 else
 J k129_j9 (s129_j9 f v3 v7 v8 v9 v10 v12 h0 h1)
 else none
 else none
 else none
 else none
 else
 J k129_j9 (s129_j9 f v3 v7 v8 v9 v10 v12 h0 h1)
 else
 some (.v (.bool false),[.dead])
 else
 if ((v7.getD (Int.toNat ((h1.getD (0) (Ins.mk 0 0 0 0 0 [] [])).args.getD v12.toNat 0)) (S162.mk 0 0)).a0 != v9)=true then
 if 0≤(v7.getD (Int.toNat ((h1.getD (0) (Ins.mk 0 0 0 0 0 [] [])).args.getD v12.toNat 0)) (S162.mk 0 0)).a0 then
 if (v7.getD (Int.toNat ((h1.getD (0) (Ins.mk 0 0 0 0 0 [] [])).args.getD v12.toNat 0)) (S162.mk 0 0)).a0<(↑v8.length:Int) then
 if 0≤v9 then
 if v9<(↑(List.length (v8.getD (v7.getD (Int.toNat ((h1.getD (0) (Ins.mk 0 0 0 0 0 [] [])).args.getD v12.toNat 0)) (S162.mk 0 0)).a0.toNat [])):Int) then
 if (!List.getD (v8.getD (v7.getD (Int.toNat ((h1.getD (0) (Ins.mk 0 0 0 0 0 [] [])).args.getD v12.toNat 0)) (S162.mk 0 0)).a0.toNat []) v9.toNat false)=true then
 some (.v (.bool false),[.dead])
 else
 J k129_j9 (s129_j9 f v3 v7 v8 v9 v10 v12 h0 h1)
 else none
 else none
 else none
 else none
 else
 J k129_j9 (s129_j9 f v3 v7 v8 v9 v10 v12 h0 h1)
 else none
 else none
 else
 some (.v (.bool false),[.dead])
 else none
 else none
 else
 J k129_j8 (s129_j8 f v3 v7 v8 v9 v10 h0):=by kernel_rfl
theorem e129_j6 (J f v3 v7 v8 v9 h0):run tb C129 U129 J (R129 f) 4096 k129_j6 (s129_j6 f v3 v7 v8 v9 h0)=
 J k129_j5 (s129_j5 f v3 v7 v8 v9 h0):=by kernel_rfl
theorem e129_j9 (J f v3 v7 v8 v9 v10 v12 h0 h1):run tb C129 U129 J (R129 f) 4096 k129_j9 (s129_j9 f v3 v7 v8 v9 v10 v12 h0 h1)=
 J k129_l8 (s129_l8 f v3 v7 v8 v9 v10 (IntKind.i64.wrap (v12+1)) h0 h1):=by kernel_rfl
theorem e129_j8 (J f v3 v7 v8 v9 v10 h0):run tb C129 U129 J (R129 f) 4096 k129_j8 (s129_j8 f v3 v7 v8 v9 v10 h0)=
 J k129_j7 (s129_j7 f v3 v7 v8 v9 v10 h0):=by kernel_rfl
theorem e129_j5 (J f v3 v7 v8 v9 h0):run tb C129 U129 J (R129 f) 4096 k129_j5 (s129_j5 f v3 v7 v8 v9 h0)=
 J k129_l4 (s129_l4 f v3 v7 v8 (IntKind.i64.wrap (v9+1)) h0):=by kernel_rfl
theorem e129_j7 (J f v3 v7 v8 v9 v10 h0):run tb C129 U129 J (R129 f) 4096 k129_j7 (s129_j7 f v3 v7 v8 v9 v10 h0)=
 J k129_l6 (s129_l6 f v3 v7 v8 v9 (IntKind.i64.wrap (v10+1)) h0):=by kernel_rfl

theorem in129:Entered 129:=⟨Try.f129,b129,by kernel_rfl,by kernel_rfl,by kernel_rfl⟩
theorem fn129 (f:Ev.Func) {res:AV Ty} {outs:List (AV Ty)} (h:Ends C129 U129 (R129 f) [.code b129] ⟨slotsA (a129 f) 0 0,heapA (a129 f)⟩ (some (res,outs))):CallOk tb Try.prog 129 (a129 f) res outs:=by
 obtain ⟨n0,hn⟩:=h
 exact fn_ok (C:=C129) (U:=U129) (n:=0+n0) (q:= .keep) tbOk good (fun f mu S h=>by
  unfold C129 at h
  simp only at h
  split at h
  ·cases h;exact ⟨in153,S153_ok⟩
  ·cases h;exact ⟨in154,S154_ok⟩
  ·cases h) mixed (fn:=Try.f129) (body:=b129) (by kernel_rfl) (by kernel_rfl) rfl rfl (by show 1≤154;omega) (hn 0)
section
variable {f:Ev.Func}
theorem Uses.i (hf:okF f) {b k:Nat} (hb:b<f.blocks.length) (hk:k<(f.blocks.getD b (Block.mk [])).ins.length):Way C129 U129 (R129 f) (rD false) k129_l2 (s129_l2 f (loc f b k) b k [f]) k129_l2 (s129_l2 f (loc f b (k+1)) b (k+1:Nat) [f]) (((f.blocks.getD b (Block.mk [])).ins.getD k (Ins.mk 0 0 0 0 0 [] [])).type_≠0→((f.blocks.getD b (Block.mk [])).ins.getD k (Ins.mk 0 0 0 0 0 [] [])).to_=loc f b (k+1)):=by
 have h1:=hf.b hb
 have h2:=types_len hf
 have hs:=loc_step hk
 have hle:=loc_le (k:=k+1) hb
 refine Way.of (fun J=>e129_l2 J f (loc f b k) b k [f]) ?_
 have w:IntKind.i64.wrap ((k:Int)+1)=((k+1:Nat):Int):=wrap_nat (by omega) (by omega)
 cases ht:(((f.blocks.getD b (Block.mk [])).ins.getD k (Ins.mk 0 0 0 0 0 [] [])).type_ != 0) with
 |false=>
  rw [ht] at hs
  simp only [Bool.false_eq_true,if_false,Nat.add_zero] at hs
  have ht2:((f.blocks.getD b (Block.mk [])).ins.getD k (Ins.mk 0 0 0 0 0 [] [])).type_=0:=by simpa using ht
  rw [hs]
  simp only [rdI,List.getD_cons_zero,Int.toNat_natCast,w]
  repeat' first|refine tree_qt (fun _=> ?_) (fun _=> ?_)|refine tree_qf (fun _=> ?_) (fun _=> ?_)|refine tree_nt (fun _=> ?_) (fun _=> ?_)|refine tree_nf (fun _=> ?_) (fun _=> ?_)|refine tree_et (fun _=> ?_) (fun _=> ?_)|refine tree_ef (fun _=> ?_) (fun _=> ?_)|refine tree_dt (fun _=> ?_) (fun _=> ?_)|refine tree_df (fun _=> ?_) (fun _=> ?_)|refine tree_bt (fun _=> ?_) (fun _=> ?_)|refine tree_bf (fun _=> ?_) (fun _=> ?_)|refine tree_ite (fun _=> ?_) (fun _=> ?_)
  all_goals first|exact WayT.yes (fun J=>rfl) (fun e=>absurd ht2 e)|(exfalso;omega)
 |true=>
  rw [ht] at hs
  simp only [if_true] at hs
  have ht2:((f.blocks.getD b (Block.mk [])).ins.getD k (Ins.mk 0 0 0 0 0 [] [])).type_≠0:=by simpa using ht
  have w2:IntKind.i64.wrap ((loc f b k:Int)+1)=((loc f b k+1:Nat):Int):=wrap_nat (by omega) (by omega)
  rw [hs]
  simp only [w2,rdI,List.getD_cons_zero,Int.toNat_natCast,w]
  repeat' first|refine tree_qt (fun _=> ?_) (fun _=> ?_)|refine tree_qf (fun _=> ?_) (fun _=> ?_)|refine tree_nt (fun _=> ?_) (fun _=> ?_)|refine tree_nf (fun _=> ?_) (fun _=> ?_)|refine tree_et (fun _=> ?_) (fun _=> ?_)|refine tree_ef (fun _=> ?_) (fun _=> ?_)|refine tree_dt (fun _=> ?_) (fun _=> ?_)|refine tree_df (fun _=> ?_) (fun _=> ?_)|refine tree_bt (fun _=> ?_) (fun _=> ?_)|refine tree_bf (fun _=> ?_) (fun _=> ?_)|refine tree_ite (fun _=> ?_) (fun _=> ?_)
  all_goals first|exact WayT.no (fun J=>rfl)|exact WayT.yes (fun J=>rfl) (fun _=>by assumption)|(exfalso;omega)
theorem Uses.b (hf:okF f) {b:Nat} (hb:b<f.blocks.length):Way C129 U129 (R129 f) (rD false) k129_l0 (s129_l0 f (loc f b 0) b [f]) k129_l0 (s129_l0 f (loc f (b+1) 0) (b+1:Nat) [f]) (∀k,k<(f.blocks.getD b (Block.mk [])).ins.length→((f.blocks.getD b (Block.mk [])).ins.getD k (Ins.mk 0 0 0 0 0 [] [])).type_≠0→((f.blocks.getD b (Block.mk [])).ins.getD k (Ins.mk 0 0 0 0 0 [] [])).to_=loc f b (k+1)):=by
 have h0:=hf.2.1
 have ww:IntKind.i64.wrap ((b:Int)+1)=((b+1:Nat):Int):=wrap_nat (by omega) (by omega)
 refine Goes.way (k':=k129_l2) (s':=s129_l2 f (loc f b 0) b (0:Nat) [f]) (.step fun J=> ?_) ?_
 ·rw [e129_l0]
  simp only [List.getD_cons_zero]
  simp (disch:=first|omega|assumption|(rw [dT];omega)|(rw [dF];omega)) only [↓iP,↓iN,iT,iF,wrap_up,tN,Nat.zero_add]
  rfl
 refine (Way.upto (fun k=>s129_l2 f (loc f b k) b k [f]) _ _ (fun k hk _=>Uses.i hf hb hk) _ (Nat.le_refl _)).then fun _=> ?_
 rw [loc_next hb]
 refine Goes.trans (k':=k129_j2) (s':=s129_j2 f (loc f (b+1) 0) b [f]) (.step fun J=> ?_) (.trans (.step fun J=>e129_j2 ..) (.step fun J=> ?_))
 ·rw [e129_l2]
  simp only [List.getD_cons_zero,Int.toNat_natCast]
  simp (disch:=first|omega|assumption|(rw [dT];omega)|(rw [dF];omega)) only [↓iP,↓iN,iT,iF,wrap_up,tN,Nat.zero_add]
 ·rw [e129_j1,ww]
theorem Uses.a (h:usesPre f) {b k j:Nat} (hb:b<f.blocks.length) (hk:k<(f.blocks.getD b (Block.mk [])).ins.length) (hj:j<((f.blocks.getD b (Block.mk [])).ins.getD k (Ins.mk 0 0 0 0 0 [] [])).args.length) {n:Nat} (hn:n+1=(typesOf f).length):Way C129 U129 (R129 f) (rD false) k129_l8 (s129_l8 f n (whereL f) (domsL f) b k j [f] [(f.blocks.getD b (Block.mk [])).ins.getD k (Ins.mk 0 0 0 0 0 [] [])]) k129_l8 (s129_l8 f n (whereL f) (domsL f) b k (j+1:Nat) [f] [(f.blocks.getD b (Block.mk [])).ins.getD k (Ins.mk 0 0 0 0 0 [] [])]) (1≤((f.blocks.getD b (Block.mk [])).ins.getD k (Ins.mk 0 0 0 0 0 [] [])).args.getD j 0∧((f.blocks.getD b (Block.mk [])).ins.getD k (Ins.mk 0 0 0 0 0 [] [])).args.getD j 0<(typesOf f).length):=by
 obtain ⟨hw,hq,hfl⟩:=h
 have hf:=hw.1
 have hN:=hw.2
 have h0:=hf.2.1
 obtain ⟨⟨wl,wd⟩,_⟩:=whereL_ok f hw
 obtain ⟨⟨dl,dd⟩,_⟩:=domsL_ok f hf
 have hx:=hq b hb k hk
 have hph:=hfl.2 b hb k hk
 have ha:=((hf.2.2 _ (getD_mem (d:=(Block.mk [])) hb)).2 _ (getD_mem (d:=(Ins.mk 0 0 0 0 0 [] [])) hk)).1
 generalize (f.blocks.getD b (Block.mk [])).ins.getD k (Ins.mk 0 0 0 0 0 [] [])=x at*
 have hinto:x.op=26→x.into.length=x.args.length∧0≤x.into.getD j 0∧x.into.getD j 0<f.blocks.length:=fun e=>by
  have h1:=(hx.1.2.2.2.2.2.2.1 e).2
  obtain ⟨h2,h3⟩:=hph e
  refine ⟨h1,?_⟩
  have hp:=prevL_in hf
  have hm:x.into.getD j 0∈(prevL f).getD b []:=by
   rw [←h3]
   exact getD_mem (by omega)
  exact (hp.2 _ (getD_mem (d:=[]) (show b<(prevL f).length by rw [hp.1];exact hb))).1 _ hm
 have ww:IntKind.i64.wrap ((j:Int)+1)=((j+1:Nat):Int):=wrap_nat (by omega) (by omega)
 have hd:((whereL f).getD (x.args.getD j 0).toNat ⟨0,0⟩).a0<f.blocks.length:=by
  by_cases hv:(x.args.getD j 0).toNat<(whereL f).length
  ·exact wd _ (getD_mem hv)
  ·have:(whereL f).getD (x.args.getD j 0).toNat ⟨0,0⟩=⟨0,0⟩:=by
    rw [List.getD_eq_getElem?_getD,List.getElem?_eq_none (by omega)]
    rfl
   rw [this]
   simp only
   omega
 have hrow:=dd ((whereL f).getD (x.args.getD j 0).toNat ⟨0,0⟩).a0.toNat
 refine (Way.of (k':=k129_j9) (s':=s129_j9 f n (whereL f) (domsL f) b k j [f] [x]) (fun J=>e129_l8 J f n (whereL f) (domsL f) b k j [f] [x]) ?_).then fun _=> .step fun J=>by rw [e129_j9,ww]
 simp only [List.getD_cons_zero,Int.toNat_natCast]
 clear hq hfl hx hph wd dd
 generalize hD:(whereL f).getD (x.args.getD j 0).toNat ⟨0,0⟩=d at*
 repeat' first|refine tree_qt (fun _=> ?_) (fun _=> ?_)|refine tree_qf (fun _=> ?_) (fun _=> ?_)|refine tree_nt (fun _=> ?_) (fun _=> ?_)|refine tree_nf (fun _=> ?_) (fun _=> ?_)|refine tree_et (fun _=> ?_) (fun _=> ?_)|refine tree_ef (fun _=> ?_) (fun _=> ?_)|refine tree_dt (fun _=> ?_) (fun _=> ?_)|refine tree_df (fun _=> ?_) (fun _=> ?_)|refine tree_bt (fun _=> ?_) (fun _=> ?_)|refine tree_bf (fun _=> ?_) (fun _=> ?_)|refine tree_ite (fun _=> ?_) (fun _=> ?_)
 all_goals first|exact WayT.no (fun J=>rfl)|exact WayT.yes (fun J=>rfl) (by omega)|(exfalso;omega)
theorem Uses.k (h:usesPre f) {b k:Nat} (hb:b<f.blocks.length) (hk:k<(f.blocks.getD b (Block.mk [])).ins.length) {n:Nat} (hn:n+1=(typesOf f).length):Way C129 U129 (R129 f) (rD false) k129_l6 (s129_l6 f n (whereL f) (domsL f) b k [f]) k129_l6 (s129_l6 f n (whereL f) (domsL f) b (k+1:Nat) [f]) (∀j,j<((f.blocks.getD b (Block.mk [])).ins.getD k (Ins.mk 0 0 0 0 0 [] [])).args.length→1≤((f.blocks.getD b (Block.mk [])).ins.getD k (Ins.mk 0 0 0 0 0 [] [])).args.getD j 0∧((f.blocks.getD b (Block.mk [])).ins.getD k (Ins.mk 0 0 0 0 0 [] [])).args.getD j 0<(typesOf f).length):=by
 have h1:=h.1.1.b hb
 have ww:IntKind.i64.wrap ((k:Int)+1)=((k+1:Nat):Int):=wrap_nat (by omega) (by omega)
 refine Goes.way (k':=k129_l8) (s':=s129_l8 f n (whereL f) (domsL f) b k (0:Nat) [f] [(f.blocks.getD b (Block.mk [])).ins.getD k (Ins.mk 0 0 0 0 0 [] [])]) (.step fun J=> ?_) ?_
 ·rw [e129_l6]
  simp only [List.getD_cons_zero,Int.toNat_natCast,rdI]
  simp (disch:=first|omega|assumption|(rw [dT];omega)|(rw [dF];omega)) only [↓iP,↓iN,iT,iF,wrap_up,tN,Nat.zero_add]
  rfl
 refine (Way.upto (fun j=>s129_l8 f n (whereL f) (domsL f) b k j [f] [(f.blocks.getD b (Block.mk [])).ins.getD k (Ins.mk 0 0 0 0 0 [] [])]) _ _ (fun j hj _=>Uses.a h hb hk hj hn) _ (Nat.le_refl _)).then fun _=> ?_
 refine Goes.trans (k':=k129_j8) (s':=s129_j8 f n (whereL f) (domsL f) b k [f]) (.step fun J=> ?_) (.trans (.step fun J=>e129_j8 ..) (.step fun J=> ?_))
 ·rw [e129_l8]
  simp only [List.getD_cons_zero,Int.toNat_natCast]
  simp (disch:=first|omega|assumption|(rw [dT];omega)|(rw [dF];omega)) only [↓iP,↓iN,iT,iF,wrap_up,tN,Nat.zero_add]
 ·rw [e129_j7,ww]
theorem Uses.c (h:usesPre f) {b:Nat} (hb:b<f.blocks.length) {n:Nat} (hn:n+1=(typesOf f).length):Way C129 U129 (R129 f) (rD false) k129_l4 (s129_l4 f n (whereL f) (domsL f) b [f]) k129_l4 (s129_l4 f n (whereL f) (domsL f) (b+1:Nat) [f]) (∀k,k<(f.blocks.getD b (Block.mk [])).ins.length→ ∀j,j<((f.blocks.getD b (Block.mk [])).ins.getD k (Ins.mk 0 0 0 0 0 [] [])).args.length→1≤((f.blocks.getD b (Block.mk [])).ins.getD k (Ins.mk 0 0 0 0 0 [] [])).args.getD j 0∧((f.blocks.getD b (Block.mk [])).ins.getD k (Ins.mk 0 0 0 0 0 [] [])).args.getD j 0<(typesOf f).length):=by
 have h0:=h.1.1.2.1
 have ww:IntKind.i64.wrap ((b:Int)+1)=((b+1:Nat):Int):=wrap_nat (by omega) (by omega)
 refine Goes.way (k':=k129_l6) (s':=s129_l6 f n (whereL f) (domsL f) b (0:Nat) [f]) (.step fun J=> ?_) ?_
 ·rw [e129_l4]
  simp only [List.getD_cons_zero]
  simp (disch:=first|omega|assumption|(rw [dT];omega)|(rw [dF];omega)) only [↓iP,↓iN,iT,iF,wrap_up,tN,Nat.zero_add]
  rfl
 refine (Way.upto (fun k=>s129_l6 f n (whereL f) (domsL f) b k [f]) _ _ (fun k hk _=>Uses.k h hb hk hn) _ (Nat.le_refl _)).then fun _=> ?_
 refine Goes.trans (k':=k129_j6) (s':=s129_j6 f n (whereL f) (domsL f) b [f]) (.step fun J=> ?_) (.trans (.step fun J=>e129_j6 ..) (.step fun J=> ?_))
 ·rw [e129_l6]
  simp only [List.getD_cons_zero,Int.toNat_natCast]
  simp (disch:=first|omega|assumption|(rw [dT];omega)|(rw [dF];omega)) only [↓iP,↓iN,iT,iF,wrap_up,tN,Nat.zero_add]
 ·rw [e129_j5,ww]
theorem uses3_ok (h:usesPre f): ∃b,Tells 129 (a129 f) [.dead] (ToQ f∧ArgQ f) b:=by
 have hf:=h.1.1
 have hw:=h.1
 have e0:(Func.mk f.name f.out f.params f.result f.blocks)=f:=rfl
 have:Says C129 U129 (R129 f) rD [.code b129] ⟨slotsA (a129 f) 0 0,heapA (a129 f)⟩ (ToQ f∧ArgQ f):=by
  refine Goes.says (k':=k129_l0) (s':=s129_l0 f (loc f 0 0) (0:Nat) [f]) (.step fun J=> ?_) ?_
  ·rw [e129,loc_zero]
   rfl
  refine Way.says (Way.upto (fun b=>s129_l0 f (loc f b 0) b [f]) _ _ (fun b hb _=>Uses.b hf hb) _ (Nat.le_refl _)) fun _=> ?_
  have hn:=loc_end hf
  generalize loc f f.blocks.length 0=n at*
  refine Goes.says (k':=k129_l4) (s':=s129_l4 f n (whereL f) (domsL f) (0:Nat) [f]) (.trans (k':=k129_j0) (s':=s129_j0 f n [f]) (.step fun J=> ?_) (.step fun J=> ?_)) ?_
  ·rw [e129_l0]
   simp only [List.getD_cons_zero]
   simp (disch:=first|omega|assumption|(rw [dT];omega)|(rw [dF];omega)) only [↓iP,↓iN,iT,iF,wrap_up,tN,Nat.zero_add]
  ·rw [e129_j0]
   simp only [List.getD_cons_zero]
   rw [e0]
   simp (disch:=first|omega|assumption|(rw [dT];omega)|(rw [dF];omega)) only [↓iP,↓iN,iT,iF,wrap_up,tN,Nat.zero_add,hf,hw]
   rfl
  refine (Way.says (Q':=True) (Way.upto (fun b=>s129_l4 f n (whereL f) (domsL f) b [f]) _ _ (fun b hb _=>Uses.c h hb hn) _ (Nat.le_refl _)) fun _=> ?_).mono fun q=>q.1
  refine Goes.says (k':=k129_j4) (s':=s129_j4 f) (.step fun J=> ?_) (.yes (.step fun J=>e129_j4 ..) trivial)
  rw [e129_l4]
  simp only [List.getD_cons_zero]
  simp (disch:=first|omega|assumption|(rw [dT];omega)|(rw [dF];omega)) only [↓iP,↓iN,iT,iF,wrap_up,tN,Nat.zero_add]
 obtain ⟨b,h1,h2⟩:=this
 exact ⟨b,fn129 f h1,h2⟩
end
noncomputable def usesB (f:Ev.Func):Bool:=told 129 (a129 f) [.dead] (ToQ f∧ArgQ f)
theorem usesB_ok (f:Ev.Func) (h:usesPre f):CallOk tb Try.prog 129 (a129 f) (.v (.bool (usesB f))) [.dead]:=(told_ok (uses3_ok h)).1
noncomputable def S129:List (AV Ty)→T (AV Ty×List (AV Ty))
 |[.agg x]=>match cod33.dec false x with
  |some f=> .ite (usesPre f) (Classical.propDecidable _) (.ret (.v (.bool (usesB f)),[.dead])) .fail
  |none=> .fail
 |_=> .fail
theorem S129_ok (l:List (AV Ty)) (r:AV Ty) (outs:List (AV Ty)) (h:(S129 l).val=some (r,outs)):CallOk tb Try.prog 129 l r outs:=by
 unfold S129 at h
 split at h
 ·rename_i x
  split at h
  ·rename_i f e1
   rcases ite_val h with ⟨e,h⟩|⟨_,h⟩
   ·cases h
    have h1:=cod33_ok.dec false x f e1
    subst h1
    exact usesB_ok f e
   ·cases h
  ·cases h
 ·cases h
end Go.Proofs.Ytggibjbcbicpjaa.Ev
namespace Go.Proofs.Ytggibjbcbicpjaa.Ev
open Go
set_option linter.unusedVariables false
set_option linter.unusedSimpArgs false
abbrev rD2 (b:Bool):EvR:=some (.v (.bool b),[.dead, .dead])
def typesPre (m:Ev.Module) (f:Ev.Func):Prop:=okF f∧FnQ f∧FnS m f∧ArgQ f
noncomputable instance fitPre.dec (m:Ev.Module) (i:Ev.Ins) (l:List Int):Decidable (fitPre m i l):=Classical.propDecidable _
noncomputable instance flowPre.dec (f:Ev.Func):Decidable (flowPre f):=Classical.propDecidable _
noncomputable instance usesPre.dec (f:Ev.Func):Decidable (usesPre f):=Classical.propDecidable _
noncomputable instance typesPre.dec (m:Ev.Module) (f:Ev.Func):Decidable (typesPre m f):=Classical.propDecidable _
def gotL (t l:List Int):List Int:=l.map fun a=>t.getD a.toNat 0
noncomputable def b130:Code:=bodyOf Try.f130
noncomputable def C130:Cfg Ty:=⟨fun
 |30=>some ([],S30)
 |155=>some ([],S155)
 |_=>none,fun _=>false,64,0⟩
def U130:Cuts:=⟨fun
 |0=>some []
 |1=>some [(2,none),(3,none),(5,none),(6,none)]
 |2=>some [(2,none),(3,none),(5,none),(6,none)]
 |3=>some [(2,none),(3,none),(5,none),(6,none),(7,none)]
 |4=>some [(2,none),(3,none),(5,none),(6,none),(7,none),(8,none),(9,some 3)]
 |_=>none,fun
 |0=>some [(2,none),(3,none),(5,none),(6,none)]
 |2=>some [(2,none),(3,none),(5,none),(6,none),(7,none)]
 |4=>some [(2,none),(3,none),(5,none),(6,none),(7,none),(8,none),(9,some 3),(10,none)]
 |_=>none,fun _=>none⟩
noncomputable def k130_j0:List Item:=[.code (sndC (sndC (sndC b130)))]
noncomputable def k130_l0:List Item:=[.code (inC (inC (sndC (fstC (sndC (sndC b130)))))), .inLoop (inC (inC (sndC (fstC (sndC (sndC b130)))))), .inBlock 0, .code (sndC (sndC (sndC b130)))]
noncomputable def k130_j1:List Item:=[.code (sndC (sndC (inC (inC (sndC (fstC (sndC (sndC b130)))))))), .inLoop (inC (inC (sndC (fstC (sndC (sndC b130)))))), .inBlock 0, .code (sndC (sndC (sndC b130)))]
noncomputable def k130_j2:List Item:=[.inBlock 1, .code (sndC (sndC (inC (inC (sndC (fstC (sndC (sndC b130)))))))), .inLoop (inC (inC (sndC (fstC (sndC (sndC b130)))))), .inBlock 0, .code (sndC (sndC (sndC b130)))]
noncomputable def k130_l2:List Item:=[.code (inC (inC (sndC (inC (fstC (sndC (inC (inC (sndC (fstC (sndC (sndC b130)))))))))))), .inLoop (inC (inC (sndC (inC (fstC (sndC (inC (inC (sndC (fstC (sndC (sndC b130)))))))))))), .inBlock 2, .inBlock 1, .code (sndC (sndC (inC (inC (sndC (fstC (sndC (sndC b130)))))))), .inLoop (inC (inC (sndC (fstC (sndC (sndC b130)))))), .inBlock 0, .code (sndC (sndC (sndC b130)))]
noncomputable def k130_j3:List Item:=[.code (sndC (sndC (inC (inC (sndC (inC (fstC (sndC (inC (inC (sndC (fstC (sndC (sndC b130)))))))))))))), .inLoop (inC (inC (sndC (inC (fstC (sndC (inC (inC (sndC (fstC (sndC (sndC b130)))))))))))), .inBlock 2, .inBlock 1, .code (sndC (sndC (inC (inC (sndC (fstC (sndC (sndC b130)))))))), .inLoop (inC (inC (sndC (fstC (sndC (sndC b130)))))), .inBlock 0, .code (sndC (sndC (sndC b130)))]
noncomputable def k130_j4:List Item:=[.code (sndC (sndC (sndC (inC (fstC (sndC (inC (inC (sndC (inC (fstC (sndC (inC (inC (sndC (fstC (sndC (sndC b130)))))))))))))))))), .inBlock 3, .code (sndC (sndC (inC (inC (sndC (inC (fstC (sndC (inC (inC (sndC (fstC (sndC (sndC b130)))))))))))))), .inLoop (inC (inC (sndC (inC (fstC (sndC (inC (inC (sndC (fstC (sndC (sndC b130)))))))))))), .inBlock 2, .inBlock 1, .code (sndC (sndC (inC (inC (sndC (fstC (sndC (sndC b130)))))))), .inLoop (inC (inC (sndC (fstC (sndC (sndC b130)))))), .inBlock 0, .code (sndC (sndC (sndC b130)))]
noncomputable def k130_l4:List Item:=[.code (inC (inC (sndC (fstC (sndC (sndC (inC (fstC (sndC (inC (inC (sndC (inC (fstC (sndC (inC (inC (sndC (fstC (sndC (sndC b130))))))))))))))))))))), .inLoop (inC (inC (sndC (fstC (sndC (sndC (inC (fstC (sndC (inC (inC (sndC (inC (fstC (sndC (inC (inC (sndC (fstC (sndC (sndC b130))))))))))))))))))))), .inBlock 4, .code (sndC (sndC (sndC (inC (fstC (sndC (inC (inC (sndC (inC (fstC (sndC (inC (inC (sndC (fstC (sndC (sndC b130)))))))))))))))))), .inBlock 3, .code (sndC (sndC (inC (inC (sndC (inC (fstC (sndC (inC (inC (sndC (fstC (sndC (sndC b130)))))))))))))), .inLoop (inC (inC (sndC (inC (fstC (sndC (inC (inC (sndC (fstC (sndC (sndC b130)))))))))))), .inBlock 2, .inBlock 1, .code (sndC (sndC (inC (inC (sndC (fstC (sndC (sndC b130)))))))), .inLoop (inC (inC (sndC (fstC (sndC (sndC b130)))))), .inBlock 0, .code (sndC (sndC (sndC b130)))]
def a130 (m:Module) (f:Func):List (AV Ty):=[.agg [.sl false (91:Nat) m.externs, .sl false (94:Nat) m.globals, .sl false (96:Nat) m.tables, .sl false (33:Nat) m.funcs], .agg [.v (.string f.name), .v (.bool f.out), .sl false (3:Nat) f.params, .v (.int .i64 f.result), .sl false (44:Nat) f.blocks]]
noncomputable def R130 (m:Module) (f:Func):St Ty→EvR:=resT tb C130 Try.f130.results.toList .keep (a130 m f)
def s130_l0 (m:Module) (f:Func) (v6:Int) (h0:List Module) (h1:List Func) (h2:List Int):St Ty:=St.mk [(2, .ptr (0) [] (0) (0)),(3, .ptr (1) [] (0) (0)),(5, .ref (2) [] none false),(6, .v (.int .i64 v6))] [some (Root.mk (27) false h0),some (Root.mk (33) false h1),some (Root.mk (3) true h2)]
def s130_l2 (m:Module) (f:Func) (v6:Int) (v7:Int) (h0:List Module) (h1:List Func) (h2:List Int):St Ty:=St.mk [(2, .ptr (0) [] (0) (0)),(3, .ptr (1) [] (0) (0)),(5, .ref (2) [] none false),(6, .v (.int .i64 v6)),(7, .v (.int .i64 v7))] [some (Root.mk (27) false h0),some (Root.mk (33) false h1),some (Root.mk (3) true h2)]
def s130_j0 (m:Module) (f:Func):St Ty:=St.mk [] []
def s130_l4 (m:Module) (f:Func) (v6:Int) (v7:Int) (v10:Int) (h0:List Module) (h1:List Func) (h2:List Int) (h3:List Ins) (h4:List Int):St Ty:=St.mk [(2, .ptr (0) [] (0) (0)),(3, .ptr (1) [] (0) (0)),(5, .ref (2) [] none false),(6, .v (.int .i64 v6)),(7, .v (.int .i64 v7)),(8, .ptr (3) [] (0) (0)),(9, .ref (4) [] none false),(10, .v (.int .i64 v10))] [some (Root.mk (27) false h0),some (Root.mk (33) false h1),some (Root.mk (3) true h2),some (Root.mk (46) false h3),some (Root.mk (3) false h4)]
def s130_j2 (m:Module) (f:Func) (v6:Int) (h0:List Module) (h1:List Func) (h2:List Int):St Ty:=St.mk [(2, .ptr (0) [] (0) (0)),(3, .ptr (1) [] (0) (0)),(5, .ref (2) [] none false),(6, .v (.int .i64 v6))] [some (Root.mk (27) false h0),some (Root.mk (33) false h1),some (Root.mk (3) true h2)]
def s130_j4 (m:Module) (f:Func) (v6:Int) (v7:Int) (h0:List Module) (h1:List Func) (h2:List Int) (h3:List Ins) (h4:List Int):St Ty:=St.mk [(2, .ptr (0) [] (0) (0)),(3, .ptr (1) [] (0) (0)),(5, .ref (2) [] none false),(6, .v (.int .i64 v6)),(7, .v (.int .i64 v7)),(8, .ptr (3) [] (0) (0)),(9, .ref (4) [] none false)] [some (Root.mk (27) false h0),some (Root.mk (33) false h1),some (Root.mk (3) true h2),some (Root.mk (46) false h3),some (Root.mk (3) false h4)]
def s130_j1 (m:Module) (f:Func) (v6:Int) (h0:List Module) (h1:List Func) (h2:List Int):St Ty:=St.mk [(2, .ptr (0) [] (0) (0)),(3, .ptr (1) [] (0) (0)),(5, .ref (2) [] none false),(6, .v (.int .i64 v6))] [some (Root.mk (27) false h0),some (Root.mk (33) false h1),some (Root.mk (3) true h2)]
def s130_j3 (m:Module) (f:Func) (v6:Int) (v7:Int) (h0:List Module) (h1:List Func) (h2:List Int):St Ty:=St.mk [(2, .ptr (0) [] (0) (0)),(3, .ptr (1) [] (0) (0)),(5, .ref (2) [] none false),(6, .v (.int .i64 v6)),(7, .v (.int .i64 v7))] [some (Root.mk (27) false h0),some (Root.mk (33) false h1),some (Root.mk (3) true h2)]
theorem e130 (J m f):run tb C130 U130 J (R130 m f) 4096 [.code b130] ⟨slotsA (a130 m f) 0 0,heapA (a130 m f)⟩=
 if okF (Func.mk f.name f.out f.params f.result f.blocks) then
 J k130_l0 (s130_l0 m f 0 ([Module.mk m.externs m.globals m.tables m.funcs]) ([Func.mk f.name f.out f.params f.result f.blocks]) (typesOf (Func.mk f.name f.out f.params f.result f.blocks)))
 else none:=by kernel_rfl
theorem e130_l0 (J m f v6 h0 h1 h2):run tb C130 U130 J (R130 m f) 4096 k130_l0 (s130_l0 m f v6 h0 h1 h2)=
 if decide (v6<(↑(h1.getD (0) (Func.mk ByteArray.empty false [] 0 [])).blocks.length:Int))=true then
 J k130_l2 (s130_l2 m f v6 0 h0 h1 h2)
 else
 J k130_j0 (s130_j0 m f):=by kernel_rfl
theorem e130_l2 (J m f v6 v7 h0 h1 h2):run tb C130 U130 J (R130 m f) 4096 k130_l2 (s130_l2 m f v6 v7 h0 h1 h2)=
 if 0≤v6 then
 if v6<(↑(h1.getD (0) (Func.mk ByteArray.empty false [] 0 [])).blocks.length:Int) then
 if decide (v7<(↑((h1.getD (0) (Func.mk ByteArray.empty false [] 0 [])).blocks.getD v6.toNat (Block.mk [])).ins.length:Int))=true then
 if 0≤v6 then
 if v6<(↑(h1.getD (0) (Func.mk ByteArray.empty false [] 0 [])).blocks.length:Int) then
 if 0≤v7 then
 if v7<(↑((h1.getD (0) (Func.mk ByteArray.empty false [] 0 [])).blocks.getD v6.toNat (Block.mk [])).ins.length:Int) then
 J k130_l4 (s130_l4 m f v6 v7 0 h0 h1 h2 ([Ins.mk (rdI (h1.getD (0) (Func.mk ByteArray.empty false [] 0 [])).blocks v6.toNat v7.toNat).op (rdI (h1.getD (0) (Func.mk ByteArray.empty false [] 0 [])).blocks v6.toNat v7.toNat).type_ (rdI (h1.getD (0) (Func.mk ByteArray.empty false [] 0 [])).blocks v6.toNat v7.toNat).to_ (rdI (h1.getD (0) (Func.mk ByteArray.empty false [] 0 [])).blocks v6.toNat v7.toNat).sym_ (rdI (h1.getD (0) (Func.mk ByteArray.empty false [] 0 [])).blocks v6.toNat v7.toNat).num (rdI (h1.getD (0) (Func.mk ByteArray.empty false [] 0 [])).blocks v6.toNat v7.toNat).args (rdI (h1.getD (0) (Func.mk ByteArray.empty false [] 0 [])).blocks v6.toNat v7.toNat).into]) ([]))
 else none
 else none
 else none
 else none
 else
 J k130_j2 (s130_j2 m f v6 h0 h1 h2)
 else none
 else none:=by kernel_rfl
theorem e130_j0 (J m f):run tb C130 U130 J (R130 m f) 4096 k130_j0 (s130_j0 m f)=
 some (.v (.bool true),[.dead, .dead]):=by kernel_rfl
theorem e130_l4 (J m f v6 v7 v10 h0 h1 h2 h3 h4):run tb C130 U130 J (R130 m f) 4096 k130_l4 (s130_l4 m f v6 v7 v10 h0 h1 h2 h3 h4)=
 if decide (v10<(↑(h3.getD (0) (Ins.mk 0 0 0 0 0 [] [])).args.length:Int))=true then
 if 0≤v10 then
 if v10<(↑(h3.getD (0) (Ins.mk 0 0 0 0 0 [] [])).args.length:Int) then
 if 0≤(h3.getD (0) (Ins.mk 0 0 0 0 0 [] [])).args.getD v10.toNat 0 then
 if (h3.getD (0) (Ins.mk 0 0 0 0 0 [] [])).args.getD v10.toNat 0<(↑h2.length:Int) then
 if h4.length+[h2.getD (0+Int.toNat ((h3.getD (0) (Ins.mk 0 0 0 0 0 [] [])).args.getD v10.toNat 0)) 0].length+1≤549755813888∧(h4.length+[h2.getD (0+Int.toNat ((h3.getD (0) (Ins.mk 0 0 0 0 0 [] [])).args.getD v10.toNat 0)) 0].length+1)*8≤549755813888 then
 J k130_l4 (s130_l4 m f v6 v7 (IntKind.i64.wrap (v10+1)) h0 h1 h2 h3 (h4++[h2.getD (0+Int.toNat ((h3.getD (0) (Ins.mk 0 0 0 0 0 [] [])).args.getD v10.toNat 0)) 0]))
 else none
 else none
 else none
 else none
 else none
 else
 J k130_j4 (s130_j4 m f v6 v7 h0 h1 h2 h3 h4):=by kernel_rfl
theorem e130_j2 (J m f v6 h0 h1 h2):run tb C130 U130 J (R130 m f) 4096 k130_j2 (s130_j2 m f v6 h0 h1 h2)=
 J k130_j1 (s130_j1 m f v6 h0 h1 h2):=by kernel_rfl
theorem e130_j4 (J m f v6 v7 h0 h1 h2 h3 h4):run tb C130 U130 J (R130 m f) 4096 k130_j4 (s130_j4 m f v6 v7 h0 h1 h2 h3 h4)=
 if fitPre (Module.mk (h0.getD (0) (Module.mk [] [] [] [])).externs (h0.getD (0) (Module.mk [] [] [] [])).globals (h0.getD (0) (Module.mk [] [] [] [])).tables (h0.getD (0) (Module.mk [] [] [] [])).funcs) (Ins.mk (h3.getD (0) (Ins.mk 0 0 0 0 0 [] [])).op (h3.getD (0) (Ins.mk 0 0 0 0 0 [] [])).type_ (h3.getD (0) (Ins.mk 0 0 0 0 0 [] [])).to_ (h3.getD (0) (Ins.mk 0 0 0 0 0 [] [])).sym_ (h3.getD (0) (Ins.mk 0 0 0 0 0 [] [])).num (h3.getD (0) (Ins.mk 0 0 0 0 0 [] [])).args (h3.getD (0) (Ins.mk 0 0 0 0 0 [] [])).into) h4 then
 if (!fitsB (Module.mk (h0.getD (0) (Module.mk [] [] [] [])).externs (h0.getD (0) (Module.mk [] [] [] [])).globals (h0.getD (0) (Module.mk [] [] [] [])).tables (h0.getD (0) (Module.mk [] [] [] [])).funcs) (Func.mk (h1.getD (0) (Func.mk ByteArray.empty false [] 0 [])).name (h1.getD (0) (Func.mk ByteArray.empty false [] 0 [])).out (h1.getD (0) (Func.mk ByteArray.empty false [] 0 [])).params (h1.getD (0) (Func.mk ByteArray.empty false [] 0 [])).result (h1.getD (0) (Func.mk ByteArray.empty false [] 0 [])).blocks) (Ins.mk (h3.getD (0) (Ins.mk 0 0 0 0 0 [] [])).op (h3.getD (0) (Ins.mk 0 0 0 0 0 [] [])).type_ (h3.getD (0) (Ins.mk 0 0 0 0 0 [] [])).to_ (h3.getD (0) (Ins.mk 0 0 0 0 0 [] [])).sym_ (h3.getD (0) (Ins.mk 0 0 0 0 0 [] [])).num (h3.getD (0) (Ins.mk 0 0 0 0 0 [] [])).args (h3.getD (0) (Ins.mk 0 0 0 0 0 [] [])).into) h4)=true then
 some (.v (.bool false),[.dead, .dead])
 else
 J k130_j3 (s130_j3 m f v6 v7 h0 h1 h2)
 else none:=by kernel_rfl
theorem e130_j1 (J m f v6 h0 h1 h2):run tb C130 U130 J (R130 m f) 4096 k130_j1 (s130_j1 m f v6 h0 h1 h2)=
 J k130_l0 (s130_l0 m f (IntKind.i64.wrap (v6+1)) h0 h1 h2):=by kernel_rfl
theorem e130_j3 (J m f v6 v7 h0 h1 h2):run tb C130 U130 J (R130 m f) 4096 k130_j3 (s130_j3 m f v6 v7 h0 h1 h2)=
 J k130_l2 (s130_l2 m f v6 (IntKind.i64.wrap (v7+1)) h0 h1 h2):=by kernel_rfl

theorem in130:Entered 130:=⟨Try.f130,b130,by kernel_rfl,by kernel_rfl,by kernel_rfl⟩
theorem fn130 (m:Ev.Module) (f:Ev.Func) {res:AV Ty} {outs:List (AV Ty)} (h:Ends C130 U130 (R130 m f) [.code b130] ⟨slotsA (a130 m f) 0 0,heapA (a130 m f)⟩ (some (res,outs))):CallOk tb Try.prog 130 (a130 m f) res outs:=by
 obtain ⟨n0,hn⟩:=h
 exact fn_ok (C:=C130) (U:=U130) (n:=0+n0) (q:= .keep) tbOk good (fun f mu S h=>by
  unfold C130 at h
  simp only at h
  split at h
  ·cases h;exact ⟨in30,S30_ok⟩
  ·cases h;exact ⟨in155,S155_ok⟩
  ·cases h) mixed (fn:=Try.f130) (body:=b130) (by kernel_rfl) (by kernel_rfl) rfl rfl (by show 2≤64;omega) (hn 0)
section
variable {m:Ev.Module} {f:Ev.Func}
theorem TypesC.a {b k j:Nat} {x:Ev.Ins} {t:List Int} (hl:x.args.length≤1000) (hj:j<x.args.length) (ha:1≤x.args.getD j 0∧x.args.getD j 0<t.length):Goes C130 U130 (R130 m f) k130_l4 (s130_l4 m f b k j [m] [f] t [x] (gotL t (x.args.take j))) k130_l4 (s130_l4 m f b k (j+1:Nat) [m] [f] t [x] (gotL t (x.args.take (j+1)))):= .step fun J=>by
 have ww:IntKind.i64.wrap ((j:Int)+1)=((j+1:Nat):Int):=wrap_nat (by omega) (by omega)
 have e1:gotL t (x.args.take (j+1))=gotL t (x.args.take j)++[t.getD (x.args.getD j 0).toNat 0]:=by
  unfold gotL
  rw [take_step (d:=0) hj,List.map_append]
  rfl
 have e2:(gotL t (x.args.take j)).length=j:=by
  unfold gotL
  rw [List.length_map,List.length_take]
  omega
 obtain ⟨h1,h2⟩:=ha
 rw [e130_l4,e1]
 simp only [List.getD_cons_zero,Int.toNat_natCast,ww,Nat.zero_add]
 generalize t.getD (x.args.getD j 0).toNat 0=y
 have c1:(gotL t (x.args.take j)).length+[y].length+1≤549755813888∧((gotL t (x.args.take j)).length+[y].length+1)*8≤549755813888:=by
  rw [List.length_singleton]
  omega
 simp (disch:=first|omega|assumption|(rw [dT];omega)|(rw [dF];omega)) only [↓iP,↓iN,iT,iF,wrap_up,tN,Nat.zero_add,c1,and_self]
theorem TypesC.k (h:typesPre m f) {b k:Nat} (hb:b<f.blocks.length) (hk:k<(f.blocks.getD b (Block.mk [])).ins.length):Way C130 U130 (R130 m f) (rD2 false) k130_l2 (s130_l2 m f b k [m] [f] (typesOf f)) k130_l2 (s130_l2 m f b (k+1:Nat) [m] [f] (typesOf f)) True:=by
 obtain ⟨hf,hq,hs,ha⟩:=h
 have h1:=hf.b hb
 have ww:IntKind.i64.wrap ((k:Int)+1)=((k+1:Nat):Int):=wrap_nat (by omega) (by omega)
 have hx:=((hf.2.2 _ (getD_mem (d:=(Block.mk [])) hb)).2 _ (getD_mem (d:=(Ins.mk 0 0 0 0 0 [] [])) hk)).1
 have hp:fitPre m ((f.blocks.getD b (Block.mk [])).ins.getD k (Ins.mk 0 0 0 0 0 [] [])) (gotL (typesOf f) ((f.blocks.getD b (Block.mk [])).ins.getD k (Ins.mk 0 0 0 0 0 [] [])).args):=⟨hq b hb k hk,hs b hb k hk,by unfold gotL;rw [List.length_map],by unfold gotL;rw [List.length_map];exact hx⟩
 have haj:=ha b hb k hk
 refine Goes.way (k':=k130_l4) (s':=s130_l4 m f b k (0:Nat) [m] [f] (typesOf f) [(f.blocks.getD b (Block.mk [])).ins.getD k (Ins.mk 0 0 0 0 0 [] [])] []) (.step fun J=> ?_) ?_
 ·rw [e130_l2]
  simp only [List.getD_cons_zero,Int.toNat_natCast,rdI]
  simp (disch:=first|omega|assumption|(rw [dT];omega)|(rw [dF];omega)) only [↓iP,↓iN,iT,iF,wrap_up,tN,Nat.zero_add]
  rfl
 generalize (f.blocks.getD b (Block.mk [])).ins.getD k (Ins.mk 0 0 0 0 0 [] [])=x at*
 refine Goes.way (Goes.upto (fun j=>s130_l4 m f b k j [m] [f] (typesOf f) [x] (gotL (typesOf f) (x.args.take j))) _ (fun j hj=>TypesC.a hx hj (haj j hj)) _ (Nat.le_refl _)) ?_
 rw [List.take_length]
 refine Goes.way (k':=k130_j4) (s':=s130_j4 m f b k [m] [f] (typesOf f) [x] (gotL (typesOf f) x.args)) (.step fun J=> ?_) ?_
 ·rw [e130_l4]
  simp only [List.getD_cons_zero]
  simp (disch:=first|omega|assumption|(rw [dT];omega)|(rw [dF];omega)) only [↓iP,↓iN,iT,iF,wrap_up,tN,Nat.zero_add]
 refine (Way.of (k':=k130_j3) (s':=s130_j3 m f b k [m] [f] (typesOf f)) (fun J=>e130_j4 J m f b k [m] [f] (typesOf f) [x] (gotL (typesOf f) x.args)) ?_).then fun _=> .step fun J=>by rw [e130_j3,ww]
 simp only [List.getD_cons_zero]
 repeat' first|refine tree_qt (fun _=> ?_) (fun _=> ?_)|refine tree_qf (fun _=> ?_) (fun _=> ?_)|refine tree_nt (fun _=> ?_) (fun _=> ?_)|refine tree_nf (fun _=> ?_) (fun _=> ?_)|refine tree_et (fun _=> ?_) (fun _=> ?_)|refine tree_ef (fun _=> ?_) (fun _=> ?_)|refine tree_dt (fun _=> ?_) (fun _=> ?_)|refine tree_df (fun _=> ?_) (fun _=> ?_)|refine tree_bt (fun _=> ?_) (fun _=> ?_)|refine tree_bf (fun _=> ?_) (fun _=> ?_)|refine tree_ite (fun _=> ?_) (fun _=> ?_)
 all_goals first|exact WayT.no (fun J=>rfl)|exact WayT.yes (fun J=>rfl) trivial|exact absurd hp ‹_›
theorem TypesC.b (h:typesPre m f) {b:Nat} (hb:b<f.blocks.length):Way C130 U130 (R130 m f) (rD2 false) k130_l0 (s130_l0 m f b [m] [f] (typesOf f)) k130_l0 (s130_l0 m f (b+1:Nat) [m] [f] (typesOf f)) True:=by
 have h0:=h.1.2.1
 have ww:IntKind.i64.wrap ((b:Int)+1)=((b+1:Nat):Int):=wrap_nat (by omega) (by omega)
 refine Goes.way (k':=k130_l2) (s':=s130_l2 m f b (0:Nat) [m] [f] (typesOf f)) (.step fun J=> ?_) ?_
 ·rw [e130_l0]
  simp only [List.getD_cons_zero]
  simp (disch:=first|omega|assumption|(rw [dT];omega)|(rw [dF];omega)) only [↓iP,↓iN,iT,iF,wrap_up,tN,Nat.zero_add]
  rfl
 refine ((Way.upto (fun k=>s130_l2 m f b k [m] [f] (typesOf f)) _ (fun _=>True) (fun k hk _=>TypesC.k h hb hk) _ (Nat.le_refl _)).mono fun _=>trivial).then fun _=> ?_
 refine Goes.trans (k':=k130_j2) (s':=s130_j2 m f b [m] [f] (typesOf f)) (.step fun J=> ?_) (.trans (.step fun J=>e130_j2 ..) (.step fun J=> ?_))
 ·rw [e130_l2]
  simp only [List.getD_cons_zero,Int.toNat_natCast]
  simp (disch:=first|omega|assumption|(rw [dT];omega)|(rw [dF];omega)) only [↓iP,↓iN,iT,iF,wrap_up,tN,Nat.zero_add]
 ·rw [e130_j1,ww]
theorem typesC_ok (h:typesPre m f): ∃b,Tells 130 (a130 m f) [.dead, .dead] True b:=by
 have hf:=h.1
 have e0:(Func.mk f.name f.out f.params f.result f.blocks)=f:=rfl
 have:Says C130 U130 (R130 m f) rD2 [.code b130] ⟨slotsA (a130 m f) 0 0,heapA (a130 m f)⟩ True:=by
  refine Goes.says (k':=k130_l0) (s':=s130_l0 m f (0:Nat) [m] [f] (typesOf f)) (.step fun J=> ?_) ?_
  ·rw [e130,e0]
   simp (disch:=first|omega|assumption|(rw [dT];omega)|(rw [dF];omega)) only [↓iP,↓iN,iT,iF,wrap_up,tN,Nat.zero_add,hf]
   rfl
  refine (Way.says (Q':=True) ((Way.upto (fun b=>s130_l0 m f b [m] [f] (typesOf f)) _ (fun _=>True) (fun b hb _=>TypesC.b h hb) _ (Nat.le_refl _)).mono fun _=>trivial) fun _=> ?_).mono fun _=>trivial
  refine Goes.says (k':=k130_j0) (s':=s130_j0 m f) (.step fun J=> ?_) (.yes (.step fun J=>e130_j0 ..) trivial)
  rw [e130_l0]
  simp only [List.getD_cons_zero]
  simp (disch:=first|omega|assumption|(rw [dT];omega)|(rw [dF];omega)) only [↓iP,↓iN,iT,iF,wrap_up,tN,Nat.zero_add]
 obtain ⟨b,h1,h2⟩:=this
 exact ⟨b,fn130 m f h1,h2⟩
end
noncomputable def typesCB (m:Ev.Module) (f:Ev.Func):Bool:=told 130 (a130 m f) [.dead, .dead] True
noncomputable def S130:List (AV Ty)→T (AV Ty×List (AV Ty))
 |[.agg x, .agg y]=>match cod27.dec false x,cod33.dec false y with
  |some m,some f=> .ite (typesPre m f) (Classical.propDecidable _) (.ret (.v (.bool (typesCB m f)),[.dead, .dead])) .fail
  |_,_=> .fail
 |_=> .fail
theorem S130_ok (l:List (AV Ty)) (r:AV Ty) (outs:List (AV Ty)) (h:(S130 l).val=some (r,outs)):CallOk tb Try.prog 130 l r outs:=by
 unfold S130 at h
 split at h
 ·rename_i x y
  split at h
  ·rename_i m f e1 e2
   rcases ite_val h with ⟨e,h⟩|⟨_,h⟩
   ·cases h
    have h1:=cod27_ok.dec false x m e1
    have h2:=cod33_ok.dec false y f e2
    subst h1 h2
    exact (told_ok (typesC_ok e)).1
   ·cases h
  ·cases h
 ·cases h
noncomputable def limitsB (m:Ev.Module):Bool:=told 124 (a124 m) [.dead] (LimitsQ m)
theorem limitsB_ok (m:Ev.Module) (h:okM m):CallOk tb Try.prog 124 (a124 m) (.v (.bool (limitsB m))) [.dead]:=(told_ok (limits_ok m h)).1
noncomputable def formsB (m:Ev.Module):Bool:=told 125 (a125 m) [.dead] (FormsQ m)
theorem formsB_ok (m:Ev.Module) (h:okM m):CallOk tb Try.prog 125 (a125 m) (.v (.bool (formsB m))) [.dead]:=(told_ok (forms_ok m h)).1
noncomputable def namesB (m:Ev.Module):Bool:=told 126 (a126 m) [.dead] True
theorem namesB_ok (m:Ev.Module) (h:okM m):CallOk tb Try.prog 126 (a126 m) (.v (.bool (namesB m))) [.dead]:=(told_ok (names_ok m h)).1
noncomputable def symsB (m:Ev.Module):Bool:=told 127 (a127 m) [.dead] (SymsQ m)
theorem symsB_ok (m:Ev.Module) (h:okM m):CallOk tb Try.prog 127 (a127 m) (.v (.bool (symsB m))) [.dead]:=(told_ok (syms_ok m h)).1
noncomputable def S124:List (AV Ty)→T (AV Ty×List (AV Ty))
 |[.agg x]=>match cod27.dec false x with
  |some m=> .ite (okM m) (okM.dec m) (.ret (.v (.bool (limitsB m)),[.dead])) .fail
  |none=> .fail
 |_=> .fail
theorem S124_ok (l:List (AV Ty)) (r:AV Ty) (outs:List (AV Ty)) (h:(S124 l).val=some (r,outs)):CallOk tb Try.prog 124 l r outs:=by
 unfold S124 at h
 split at h
 ·rename_i x
  split at h
  ·rename_i m e1
   rcases ite_val h with ⟨e,h⟩|⟨_,h⟩
   ·cases h
    have h1:=cod27_ok.dec false x m e1
    subst h1
    exact limitsB_ok m e
   ·cases h
  ·cases h
 ·cases h
noncomputable def S125:List (AV Ty)→T (AV Ty×List (AV Ty))
 |[.agg x]=>match cod27.dec false x with
  |some m=> .ite (okM m) (okM.dec m) (.ret (.v (.bool (formsB m)),[.dead])) .fail
  |none=> .fail
 |_=> .fail
theorem S125_ok (l:List (AV Ty)) (r:AV Ty) (outs:List (AV Ty)) (h:(S125 l).val=some (r,outs)):CallOk tb Try.prog 125 l r outs:=by
 unfold S125 at h
 split at h
 ·rename_i x
  split at h
  ·rename_i m e1
   rcases ite_val h with ⟨e,h⟩|⟨_,h⟩
   ·cases h
    have h1:=cod27_ok.dec false x m e1
    subst h1
    exact formsB_ok m e
   ·cases h
  ·cases h
 ·cases h
noncomputable def S126:List (AV Ty)→T (AV Ty×List (AV Ty))
 |[.agg x]=>match cod27.dec false x with
  |some m=> .ite (okM m) (okM.dec m) (.ret (.v (.bool (namesB m)),[.dead])) .fail
  |none=> .fail
 |_=> .fail
theorem S126_ok (l:List (AV Ty)) (r:AV Ty) (outs:List (AV Ty)) (h:(S126 l).val=some (r,outs)):CallOk tb Try.prog 126 l r outs:=by
 unfold S126 at h
 split at h
 ·rename_i x
  split at h
  ·rename_i m e1
   rcases ite_val h with ⟨e,h⟩|⟨_,h⟩
   ·cases h
    have h1:=cod27_ok.dec false x m e1
    subst h1
    exact namesB_ok m e
   ·cases h
  ·cases h
 ·cases h
noncomputable def S127:List (AV Ty)→T (AV Ty×List (AV Ty))
 |[.agg x]=>match cod27.dec false x with
  |some m=> .ite (okM m) (okM.dec m) (.ret (.v (.bool (symsB m)),[.dead])) .fail
  |none=> .fail
 |_=> .fail
theorem S127_ok (l:List (AV Ty)) (r:AV Ty) (outs:List (AV Ty)) (h:(S127 l).val=some (r,outs)):CallOk tb Try.prog 127 l r outs:=by
 unfold S127 at h
 split at h
 ·rename_i x
  split at h
  ·rename_i m e1
   rcases ite_val h with ⟨e,h⟩|⟨_,h⟩
   ·cases h
    have h1:=cod27_ok.dec false x m e1
    subst h1
    exact symsB_ok m e
   ·cases h
  ·cases h
 ·cases h
end Go.Proofs.Ytggibjbcbicpjaa.Ev
namespace Go.Proofs.Ytggibjbcbicpjaa.Ev
open Go
set_option linter.unusedVariables false
set_option linter.unusedSimpArgs false
abbrev rC (e:Int):EvR:=some (.v (.int .i64 e),[.dead])
section
variable {C:Cfg Ty} {U:Cuts} {Rt:St Ty→EvR} {k k':List Item} {s s':St Ty} {Q Q':Prop} {F:Jt→EvR} {e:Int}
def AnsC (C:Cfg Ty) (U:Cuts) (Rt:St Ty→EvR) (k:List Item) (s:St Ty) (Q:Prop):Prop:= ∃e,Ends C U Rt k s (rC e)∧(e=0→Q)
def AnsF (C:Cfg Ty) (U:Cuts) (Rt:St Ty→EvR) (Q:Prop) (F:Jt→EvR):Prop:=(∃e,e≠0∧ ∀J,F J=rC e)∨ ∃k' s',(∀J,F J=J k' s')∧AnsC C U Rt k' s' Q
theorem AnsC.of (h: ∀J:Jt,run tb C U J Rt 4096 k s=F J) (g:AnsF C U Rt Q F):AnsC C U Rt k s Q:=by
 rcases g with ⟨e,g1,g2⟩|⟨k',s',g1,e,g2,g3⟩
 ·exact ⟨e, .step fun J=>(h J).trans (g2 J),fun h=>absurd h g1⟩
 ·exact ⟨e,(Goes.step fun J=>(h J).trans (g1 J)).ends g2,g3⟩
theorem Way.ansC (h:Way C U Rt (rC e) k s k' s' Q) (he:e≠0) (g:Q→AnsC C U Rt k' s' Q'):AnsC C U Rt k s Q':=by
 rcases h with h|⟨q,h⟩
 ·exact ⟨e,h,fun h=>absurd h he⟩
 ·obtain ⟨e,g1,g2⟩:=g q
  exact ⟨e,h.ends g1,g2⟩
theorem Goes.ansC (h:Goes C U Rt k s k' s') (g:AnsC C U Rt k' s' Q):AnsC C U Rt k s Q:=by
 obtain ⟨e,g1,g2⟩:=g
 exact ⟨e,h.ends g1,g2⟩
end
def CheckQ (m:Ev.Module):Prop:=LimitsQ m∧FormsQ m∧SymsQ m∧ ∀i,i<m.funcs.length→FlowQ (m.funcs.getD i (Func.mk ByteArray.empty false [] 0 []))∧ToQ (m.funcs.getD i (Func.mk ByteArray.empty false [] 0 []))∧ArgQ (m.funcs.getD i (Func.mk ByteArray.empty false [] 0 []))
noncomputable def b74:Code:=bodyOf Try.f74
noncomputable def C74:Cfg Ty:=⟨fun
 |124=>some ([],S124)
 |125=>some ([],S125)
 |126=>some ([],S126)
 |127=>some ([],S127)
 |128=>some ([],S128)
 |129=>some ([],S129)
 |130=>some ([],S130)
 |_=>none,fun _=>false,61,0⟩
def U74:Cuts:=⟨fun
 |0=>some [(1,none)]
 |2=>some [(1,none)]
 |4=>some []
 |_=>none,fun
 |0=>some [(1,none),(3,none)]
 |2=>some [(1,none),(4,none)]
 |4=>some [(1,none),(5,none)]
 |_=>none,fun _=>none⟩
noncomputable def k74_j0:List Item:=[.code (sndC (sndC (sndC (sndC (sndC (sndC b74))))))]
noncomputable def k74_l0:List Item:=[.code (inC (inC (sndC (fstC (sndC (sndC (sndC (sndC (sndC b74))))))))), .inLoop (inC (inC (sndC (fstC (sndC (sndC (sndC (sndC (sndC b74))))))))), .inBlock 0, .code (sndC (sndC (sndC (sndC (sndC (sndC b74))))))]
noncomputable def k74_j2:List Item:=[.code (sndC (sndC (sndC (sndC (sndC (sndC (sndC b74)))))))]
noncomputable def k74_l2:List Item:=[.code (inC (inC (sndC (fstC (sndC (sndC (sndC (sndC (sndC (sndC b74)))))))))), .inLoop (inC (inC (sndC (fstC (sndC (sndC (sndC (sndC (sndC (sndC b74)))))))))), .inBlock 2, .code (sndC (sndC (sndC (sndC (sndC (sndC (sndC b74)))))))]
noncomputable def k74_j4:List Item:=[.code (sndC (sndC (sndC (sndC (sndC (sndC (sndC (sndC b74))))))))]
noncomputable def k74_l4:List Item:=[.code (inC (inC (sndC (fstC (sndC (sndC (sndC (sndC (sndC (sndC (sndC b74))))))))))), .inLoop (inC (inC (sndC (fstC (sndC (sndC (sndC (sndC (sndC (sndC (sndC b74))))))))))), .inBlock 4, .code (sndC (sndC (sndC (sndC (sndC (sndC (sndC (sndC b74))))))))]
def a74 (m:Module):List (AV Ty):=[.agg [.sl false (91:Nat) m.externs, .sl false (94:Nat) m.globals, .sl false (96:Nat) m.tables, .sl false (33:Nat) m.funcs]]
noncomputable def R74 (m:Module):St Ty→EvR:=resT tb C74 Try.f74.results.toList .keep (a74 m)
def s74_l0 (m:Module) (v3:Int) (h0:List Module):St Ty:=St.mk [(1, .ptr (0) [] (0) (0)),(3, .v (.int .i64 v3))] [some (Root.mk (27) false h0)]
def s74_j0 (m:Module) (h0:List Module):St Ty:=St.mk [(1, .ptr (0) [] (0) (0))] [some (Root.mk (27) false h0)]
def s74_l2 (m:Module) (v4:Int) (h0:List Module):St Ty:=St.mk [(1, .ptr (0) [] (0) (0)),(4, .v (.int .i64 v4))] [some (Root.mk (27) false h0)]
def s74_j2 (m:Module) (h0:List Module):St Ty:=St.mk [(1, .ptr (0) [] (0) (0))] [some (Root.mk (27) false h0)]
def s74_l4 (m:Module) (v5:Int) (h0:List Module):St Ty:=St.mk [(1, .ptr (0) [] (0) (0)),(5, .v (.int .i64 v5))] [some (Root.mk (27) false h0)]
def s74_j4 (m:Module):St Ty:=St.mk [] []
theorem e74 (J m):run tb C74 U74 J (R74 m) 4096 [.code b74] ⟨slotsA (a74 m) 0 0,heapA (a74 m)⟩=
 if okM (Module.mk m.externs m.globals m.tables m.funcs) then
 if (!limitsB (Module.mk m.externs m.globals m.tables m.funcs))=true then
 some (.v (.int .i64 2),[.dead])
 else
 if okM (Module.mk m.externs m.globals m.tables m.funcs) then
 if (!formsB (Module.mk m.externs m.globals m.tables m.funcs))=true then
 some (.v (.int .i64 1),[.dead])
 else
 if okM (Module.mk m.externs m.globals m.tables m.funcs) then
 if (!namesB (Module.mk m.externs m.globals m.tables m.funcs))=true then
 some (.v (.int .i64 3),[.dead])
 else
 if okM (Module.mk m.externs m.globals m.tables m.funcs) then
 if (!symsB (Module.mk m.externs m.globals m.tables m.funcs))=true then
 some (.v (.int .i64 4),[.dead])
 else
 J k74_l0 (s74_l0 m 0 ([Module.mk m.externs m.globals m.tables m.funcs]))
 else none
 else none
 else none
 else none:=by kernel_rfl
theorem e74_l0 (J m v3 h0):run tb C74 U74 J (R74 m) 4096 k74_l0 (s74_l0 m v3 h0)=
 if decide (v3<(↑(h0.getD (0) (Module.mk [] [] [] [])).funcs.length:Int))=true then
 if 0≤v3 then
 if v3<(↑(h0.getD (0) (Module.mk [] [] [] [])).funcs.length:Int) then
 if flowPre (Func.mk ((h0.getD (0) (Module.mk [] [] [] [])).funcs.getD v3.toNat (Func.mk ByteArray.empty false [] 0 [])).name ((h0.getD (0) (Module.mk [] [] [] [])).funcs.getD v3.toNat (Func.mk ByteArray.empty false [] 0 [])).out ((h0.getD (0) (Module.mk [] [] [] [])).funcs.getD v3.toNat (Func.mk ByteArray.empty false [] 0 [])).params ((h0.getD (0) (Module.mk [] [] [] [])).funcs.getD v3.toNat (Func.mk ByteArray.empty false [] 0 [])).result ((h0.getD (0) (Module.mk [] [] [] [])).funcs.getD v3.toNat (Func.mk ByteArray.empty false [] 0 [])).blocks) then
 if (!flowsB (Func.mk ((h0.getD (0) (Module.mk [] [] [] [])).funcs.getD v3.toNat (Func.mk ByteArray.empty false [] 0 [])).name ((h0.getD (0) (Module.mk [] [] [] [])).funcs.getD v3.toNat (Func.mk ByteArray.empty false [] 0 [])).out ((h0.getD (0) (Module.mk [] [] [] [])).funcs.getD v3.toNat (Func.mk ByteArray.empty false [] 0 [])).params ((h0.getD (0) (Module.mk [] [] [] [])).funcs.getD v3.toNat (Func.mk ByteArray.empty false [] 0 [])).result ((h0.getD (0) (Module.mk [] [] [] [])).funcs.getD v3.toNat (Func.mk ByteArray.empty false [] 0 [])).blocks))=true then
 some (.v (.int .i64 5),[.dead])
 else
 J k74_l0 (s74_l0 m (IntKind.i64.wrap (v3+1)) h0)
 else none
 else none
 else none
 else
 J k74_j0 (s74_j0 m h0):=by kernel_rfl
theorem e74_j0 (J m h0):run tb C74 U74 J (R74 m) 4096 k74_j0 (s74_j0 m h0)=
 J k74_l2 (s74_l2 m 0 h0):=by kernel_rfl
theorem e74_l2 (J m v4 h0):run tb C74 U74 J (R74 m) 4096 k74_l2 (s74_l2 m v4 h0)=
 if decide (v4<(↑(h0.getD (0) (Module.mk [] [] [] [])).funcs.length:Int))=true then
 if 0≤v4 then
 if v4<(↑(h0.getD (0) (Module.mk [] [] [] [])).funcs.length:Int) then
 if usesPre (Func.mk ((h0.getD (0) (Module.mk [] [] [] [])).funcs.getD v4.toNat (Func.mk ByteArray.empty false [] 0 [])).name ((h0.getD (0) (Module.mk [] [] [] [])).funcs.getD v4.toNat (Func.mk ByteArray.empty false [] 0 [])).out ((h0.getD (0) (Module.mk [] [] [] [])).funcs.getD v4.toNat (Func.mk ByteArray.empty false [] 0 [])).params ((h0.getD (0) (Module.mk [] [] [] [])).funcs.getD v4.toNat (Func.mk ByteArray.empty false [] 0 [])).result ((h0.getD (0) (Module.mk [] [] [] [])).funcs.getD v4.toNat (Func.mk ByteArray.empty false [] 0 [])).blocks) then
 if (!usesB (Func.mk ((h0.getD (0) (Module.mk [] [] [] [])).funcs.getD v4.toNat (Func.mk ByteArray.empty false [] 0 [])).name ((h0.getD (0) (Module.mk [] [] [] [])).funcs.getD v4.toNat (Func.mk ByteArray.empty false [] 0 [])).out ((h0.getD (0) (Module.mk [] [] [] [])).funcs.getD v4.toNat (Func.mk ByteArray.empty false [] 0 [])).params ((h0.getD (0) (Module.mk [] [] [] [])).funcs.getD v4.toNat (Func.mk ByteArray.empty false [] 0 [])).result ((h0.getD (0) (Module.mk [] [] [] [])).funcs.getD v4.toNat (Func.mk ByteArray.empty false [] 0 [])).blocks))=true then
 some (.v (.int .i64 6),[.dead])
 else
 J k74_l2 (s74_l2 m (IntKind.i64.wrap (v4+1)) h0)
 else none
 else none
 else none
 else
 J k74_j2 (s74_j2 m h0):=by kernel_rfl
theorem e74_j2 (J m h0):run tb C74 U74 J (R74 m) 4096 k74_j2 (s74_j2 m h0)=
 J k74_l4 (s74_l4 m 0 h0):=by kernel_rfl
theorem e74_l4 (J m v5 h0):run tb C74 U74 J (R74 m) 4096 k74_l4 (s74_l4 m v5 h0)=
 if decide (v5<(↑(h0.getD (0) (Module.mk [] [] [] [])).funcs.length:Int))=true then
 if 0≤v5 then
 if v5<(↑(h0.getD (0) (Module.mk [] [] [] [])).funcs.length:Int) then
 if typesPre (Module.mk (h0.getD (0) (Module.mk [] [] [] [])).externs (h0.getD (0) (Module.mk [] [] [] [])).globals (h0.getD (0) (Module.mk [] [] [] [])).tables (h0.getD (0) (Module.mk [] [] [] [])).funcs) (Func.mk ((h0.getD (0) (Module.mk [] [] [] [])).funcs.getD v5.toNat (Func.mk ByteArray.empty false [] 0 [])).name ((h0.getD (0) (Module.mk [] [] [] [])).funcs.getD v5.toNat (Func.mk ByteArray.empty false [] 0 [])).out ((h0.getD (0) (Module.mk [] [] [] [])).funcs.getD v5.toNat (Func.mk ByteArray.empty false [] 0 [])).params ((h0.getD (0) (Module.mk [] [] [] [])).funcs.getD v5.toNat (Func.mk ByteArray.empty false [] 0 [])).result ((h0.getD (0) (Module.mk [] [] [] [])).funcs.getD v5.toNat (Func.mk ByteArray.empty false [] 0 [])).blocks) then
 if (!typesCB (Module.mk (h0.getD (0) (Module.mk [] [] [] [])).externs (h0.getD (0) (Module.mk [] [] [] [])).globals (h0.getD (0) (Module.mk [] [] [] [])).tables (h0.getD (0) (Module.mk [] [] [] [])).funcs) (Func.mk ((h0.getD (0) (Module.mk [] [] [] [])).funcs.getD v5.toNat (Func.mk ByteArray.empty false [] 0 [])).name ((h0.getD (0) (Module.mk [] [] [] [])).funcs.getD v5.toNat (Func.mk ByteArray.empty false [] 0 [])).out ((h0.getD (0) (Module.mk [] [] [] [])).funcs.getD v5.toNat (Func.mk ByteArray.empty false [] 0 [])).params ((h0.getD (0) (Module.mk [] [] [] [])).funcs.getD v5.toNat (Func.mk ByteArray.empty false [] 0 [])).result ((h0.getD (0) (Module.mk [] [] [] [])).funcs.getD v5.toNat (Func.mk ByteArray.empty false [] 0 [])).blocks))=true then
 some (.v (.int .i64 7),[.dead])
 else
 J k74_l4 (s74_l4 m (IntKind.i64.wrap (v5+1)) h0)
 else none
 else none
 else none
 else
 J k74_j4 (s74_j4 m):=by kernel_rfl
theorem e74_j4 (J m):run tb C74 U74 J (R74 m) 4096 k74_j4 (s74_j4 m)=
 some (.v (.int .i64 0),[.dead]):=by kernel_rfl

theorem in74:Entered 74:=⟨Try.f74,b74,by kernel_rfl,by kernel_rfl,by kernel_rfl⟩
theorem fn74 (m:Ev.Module) {res:AV Ty} {outs:List (AV Ty)} (h:Ends C74 U74 (R74 m) [.code b74] ⟨slotsA (a74 m) 0 0,heapA (a74 m)⟩ (some (res,outs))):CallOk tb Try.prog 74 (a74 m) res outs:=by
 obtain ⟨n0,hn⟩:=h
 exact fn_ok (C:=C74) (U:=U74) (n:=0+n0) (q:= .keep) tbOk good (fun f mu S h=>by
  unfold C74 at h
  simp only at h
  split at h
  ·cases h;exact ⟨in124,S124_ok⟩
  ·cases h;exact ⟨in125,S125_ok⟩
  ·cases h;exact ⟨in126,S126_ok⟩
  ·cases h;exact ⟨in127,S127_ok⟩
  ·cases h;exact ⟨in128,S128_ok⟩
  ·cases h;exact ⟨in129,S129_ok⟩
  ·cases h;exact ⟨in130,S130_ok⟩
  ·cases h) mixed (fn:=Try.f74) (body:=b74) (by kernel_rfl) (by kernel_rfl) rfl rfl (by show 1≤61;omega) (hn 0)
section
variable {m:Ev.Module}
theorem Check.f (h:okM m) (hq:FormsQ m) {i:Nat} (hi:i<m.funcs.length):Way C74 U74 (R74 m) (rC 5) k74_l0 (s74_l0 m i [m]) k74_l0 (s74_l0 m (i+1:Nat) [m]) (FlowQ (m.funcs.getD i (Func.mk ByteArray.empty false [] 0 []))):=by
 have hl:=h.1.2.2.2
 have hp:flowPre (m.funcs.getD i (Func.mk ByteArray.empty false [] 0 [])):=⟨h.f hi,hq i hi⟩
 refine Way.of (fun J=>e74_l0 J m i [m]) ?_
 have w:IntKind.i64.wrap ((i:Int)+1)=((i+1:Nat):Int):=wrap_nat (by omega) (by omega)
 simp only [List.getD_cons_zero,Int.toNat_natCast,w]
 repeat' first|refine tree_qt (fun _=> ?_) (fun _=> ?_)|refine tree_qf (fun _=> ?_) (fun _=> ?_)|refine tree_nt (fun _=> ?_) (fun _=> ?_)|refine tree_nf (fun _=> ?_) (fun _=> ?_)|refine tree_et (fun _=> ?_) (fun _=> ?_)|refine tree_ef (fun _=> ?_) (fun _=> ?_)|refine tree_dt (fun _=> ?_) (fun _=> ?_)|refine tree_df (fun _=> ?_) (fun _=> ?_)|refine tree_bt (fun _=> ?_) (fun _=> ?_)|refine tree_bf (fun _=> ?_) (fun _=> ?_)|refine tree_ite (fun _=> ?_) (fun _=> ?_)
 all_goals first|exact WayT.no (fun J=>rfl)|exact WayT.yes (fun J=>rfl) ((told_ok (flows_ok hp)).2 ‹_›)|(exfalso;omega)|exact absurd hp ‹_›
theorem Check.u (h:okM m) (hq:FormsQ m) (hl:LimitsQ m) (hf: ∀i,i<m.funcs.length→FlowQ (m.funcs.getD i (Func.mk ByteArray.empty false [] 0 []))) {i:Nat} (hi:i<m.funcs.length):Way C74 U74 (R74 m) (rC 6) k74_l2 (s74_l2 m i [m]) k74_l2 (s74_l2 m (i+1:Nat) [m]) (ToQ (m.funcs.getD i (Func.mk ByteArray.empty false [] 0 []))∧ArgQ (m.funcs.getD i (Func.mk ByteArray.empty false [] 0 []))):=by
 have h0:=h.1.2.2.2
 have hp:usesPre (m.funcs.getD i (Func.mk ByteArray.empty false [] 0 [])):=⟨⟨h.f hi,hl i hi⟩,hq i hi,hf i hi⟩
 refine Way.of (fun J=>e74_l2 J m i [m]) ?_
 have w:IntKind.i64.wrap ((i:Int)+1)=((i+1:Nat):Int):=wrap_nat (by omega) (by omega)
 simp only [List.getD_cons_zero,Int.toNat_natCast,w]
 repeat' first|refine tree_qt (fun _=> ?_) (fun _=> ?_)|refine tree_qf (fun _=> ?_) (fun _=> ?_)|refine tree_nt (fun _=> ?_) (fun _=> ?_)|refine tree_nf (fun _=> ?_) (fun _=> ?_)|refine tree_et (fun _=> ?_) (fun _=> ?_)|refine tree_ef (fun _=> ?_) (fun _=> ?_)|refine tree_dt (fun _=> ?_) (fun _=> ?_)|refine tree_df (fun _=> ?_) (fun _=> ?_)|refine tree_bt (fun _=> ?_) (fun _=> ?_)|refine tree_bf (fun _=> ?_) (fun _=> ?_)|refine tree_ite (fun _=> ?_) (fun _=> ?_)
 all_goals first|exact WayT.no (fun J=>rfl)|exact WayT.yes (fun J=>rfl) ((told_ok (uses3_ok hp)).2 ‹_›)|(exfalso;omega)|exact absurd hp ‹_›
theorem Check.t (h:okM m) (hq:FormsQ m) (hs:SymsQ m) (hf: ∀i,i<m.funcs.length→ToQ (m.funcs.getD i (Func.mk ByteArray.empty false [] 0 []))∧ArgQ (m.funcs.getD i (Func.mk ByteArray.empty false [] 0 []))) {i:Nat} (hi:i<m.funcs.length):Way C74 U74 (R74 m) (rC 7) k74_l4 (s74_l4 m i [m]) k74_l4 (s74_l4 m (i+1:Nat) [m]) True:=by
 have h0:=h.1.2.2.2
 have hp:typesPre m (m.funcs.getD i (Func.mk ByteArray.empty false [] 0 [])):=⟨h.f hi,hq i hi,hs i hi,(hf i hi).2⟩
 refine Way.of (fun J=>e74_l4 J m i [m]) ?_
 have w:IntKind.i64.wrap ((i:Int)+1)=((i+1:Nat):Int):=wrap_nat (by omega) (by omega)
 simp only [List.getD_cons_zero,Int.toNat_natCast,w]
 repeat' first|refine tree_qt (fun _=> ?_) (fun _=> ?_)|refine tree_qf (fun _=> ?_) (fun _=> ?_)|refine tree_nt (fun _=> ?_) (fun _=> ?_)|refine tree_nf (fun _=> ?_) (fun _=> ?_)|refine tree_et (fun _=> ?_) (fun _=> ?_)|refine tree_ef (fun _=> ?_) (fun _=> ?_)|refine tree_dt (fun _=> ?_) (fun _=> ?_)|refine tree_df (fun _=> ?_) (fun _=> ?_)|refine tree_bt (fun _=> ?_) (fun _=> ?_)|refine tree_bf (fun _=> ?_) (fun _=> ?_)|refine tree_ite (fun _=> ?_) (fun _=> ?_)
 all_goals first|exact WayT.no (fun J=>rfl)|exact WayT.yes (fun J=>rfl) (trivial)|(exfalso;omega)|exact absurd hp ‹_›
theorem check_rest (h:okM m) (hl:LimitsQ m) (hq:FormsQ m) (hs:SymsQ m):AnsC C74 U74 (R74 m) k74_l0 (s74_l0 m 0 [m]) (CheckQ m):=by
 refine Way.ansC (e:=5) (Way.upto (fun i=>s74_l0 m i [m]) _ _ (fun i hi _=>Check.f h hq hi) _ (Nat.le_refl _)) (by decide) fun hf=> ?_
 refine Goes.ansC (k':=k74_l2) (s':=s74_l2 m (0:Nat) [m]) (.trans (k':=k74_j0) (s':=s74_j0 m [m]) (.step fun J=> ?_) (.step fun J=>e74_j0 ..)) ?_
 ·rw [e74_l0]
  simp only [List.getD_cons_zero]
  simp (disch:=first|omega|assumption|(rw [dT];omega)|(rw [dF];omega)) only [↓iP,↓iN,iT,iF,wrap_up,tN,Nat.zero_add]
 refine Way.ansC (e:=6) (Way.upto (fun i=>s74_l2 m i [m]) _ _ (fun i hi _=>Check.u h hq hl hf hi) _ (Nat.le_refl _)) (by decide) fun hu=> ?_
 refine Goes.ansC (k':=k74_l4) (s':=s74_l4 m (0:Nat) [m]) (.trans (k':=k74_j2) (s':=s74_j2 m [m]) (.step fun J=> ?_) (.step fun J=>e74_j2 ..)) ?_
 ·rw [e74_l2]
  simp only [List.getD_cons_zero]
  simp (disch:=first|omega|assumption|(rw [dT];omega)|(rw [dF];omega)) only [↓iP,↓iN,iT,iF,wrap_up,tN,Nat.zero_add]
 refine Way.ansC (e:=7) (Way.upto (fun i=>s74_l4 m i [m]) _ (fun _=>True) (fun i hi _=>Check.t h hq hs hu hi) _ (Nat.le_refl _)) (by decide) fun _=> ?_
 refine ⟨0,Goes.ends (k':=k74_j4) (s':=s74_j4 m) (.step fun J=> ?_) (.step fun J=>e74_j4 ..),fun _=>⟨hl,hq,hs,fun i hi=>⟨hf i hi,hu i hi⟩⟩⟩
 rw [e74_l4]
 simp only [List.getD_cons_zero]
 simp (disch:=first|omega|assumption|(rw [dT];omega)|(rw [dF];omega)) only [↓iP,↓iN,iT,iF,wrap_up,tN,Nat.zero_add]
theorem check_ex (m:Ev.Module) (h:okM m): ∃e,CallOk tb Try.prog 74 (a74 m) (.v (.int .i64 e)) [.dead]∧(e=0→CheckQ m):=by
 have e0:(Module.mk m.externs m.globals m.tables m.funcs)=m:=rfl
 have:AnsC C74 U74 (R74 m) [.code b74] ⟨slotsA (a74 m) 0 0,heapA (a74 m)⟩ (CheckQ m):=by
  refine AnsC.of (fun J=>e74 J m) ?_
  simp only [e0]
  repeat' first|refine tree_qt (fun _=> ?_) (fun _=> ?_)|refine tree_qf (fun _=> ?_) (fun _=> ?_)|refine tree_nt (fun _=> ?_) (fun _=> ?_)|refine tree_nf (fun _=> ?_) (fun _=> ?_)|refine tree_et (fun _=> ?_) (fun _=> ?_)|refine tree_ef (fun _=> ?_) (fun _=> ?_)|refine tree_dt (fun _=> ?_) (fun _=> ?_)|refine tree_df (fun _=> ?_) (fun _=> ?_)|refine tree_bt (fun _=> ?_) (fun _=> ?_)|refine tree_bf (fun _=> ?_) (fun _=> ?_)|refine tree_ite (fun _=> ?_) (fun _=> ?_)
  all_goals first|exact .inl ⟨_,by decide,fun J=>rfl⟩|exact .inr ⟨_,_,fun J=>rfl,check_rest h ((told_ok (limits_ok m h)).2 ‹_›) ((told_ok (forms_ok m h)).2 ‹_›) ((told_ok (syms_ok m h)).2 ‹_›)⟩|exact absurd h ‹_›
 obtain ⟨e,h1,h2⟩:=this
 exact ⟨e,fn74 m h1,h2⟩
end
noncomputable def checkI (m:Ev.Module):Int:=if h:okM m then Classical.choose (check_ex m h) else 0
theorem checkI_ok (m:Ev.Module) (h:okM m):CallOk tb Try.prog 74 (a74 m) (.v (.int .i64 (checkI m))) [.dead]∧(checkI m=0→CheckQ m):=by
 unfold checkI
 rw [dif_pos h]
 exact Classical.choose_spec (check_ex m h)
theorem check_ok (m:Ev.Module) (h:okM m):CallOk tb Try.prog 74 (a74 m) (.v (.int .i64 (checkI m))) [.dead]:=(checkI_ok m h).1
noncomputable def S74:List (AV Ty)→T (AV Ty×List (AV Ty))
 |[.agg x]=>match cod27.dec false x with
  |some m=> .ite (okM m) (okM.dec m) (.ret (.v (.int .i64 (checkI m)),[.dead])) .fail
  |none=> .fail
 |_=> .fail
theorem S74_ok (l:List (AV Ty)) (r:AV Ty) (outs:List (AV Ty)) (h:(S74 l).val=some (r,outs)):CallOk tb Try.prog 74 l r outs:=by
 unfold S74 at h
 split at h
 ·rename_i x
  split at h
  ·rename_i m e1
   rcases ite_val h with ⟨e,h⟩|⟨_,h⟩
   ·cases h
    have h1:=cod27_ok.dec false x m e1
    subst h1
    exact check_ok m e
   ·cases h
  ·cases h
 ·cases h
end Go.Proofs.Ytggibjbcbicpjaa.Ev
namespace Go.Proofs.Ytggibjbcbicpjaa.Ev
open Go
set_option linter.unusedVariables false
set_option linter.unusedSimpArgs false
noncomputable def fitB (m:Ev.Module):Bool:=match smallB m with
 |true=>checkI m == 0
 |false=>false
noncomputable def b20:Code:=bodyOf Try.f20
noncomputable def C20:Cfg Ty:=⟨fun
 |33=>some ([],S33)
 |74=>some ([],S74)
 |_=>none,fun _=>false,10,0⟩
def U20:Cuts:=⟨fun _=>none,fun _=>none,fun _=>none⟩
def a20 (m:Module):List (AV Ty):=[.agg [.sl false (91:Nat) m.externs, .sl false (94:Nat) m.globals, .sl false (96:Nat) m.tables, .sl false (33:Nat) m.funcs]]
noncomputable def R20 (m:Module):St Ty→EvR:=resT tb C20 Try.f20.results.toList .keep (a20 m)
theorem e20 (J m):run tb C20 U20 J (R20 m) 4096 [.code b20] ⟨slotsA (a20 m) 0 0,heapA (a20 m)⟩=
 if wideM (Module.mk m.externs m.globals m.tables m.funcs) then
 if smallB (Module.mk m.externs m.globals m.tables m.funcs)=true then
 if okM (Module.mk m.externs m.globals m.tables m.funcs) then
 some (.v (.bool (checkI (Module.mk m.externs m.globals m.tables m.funcs) == 0)),[.dead])
 else none
 else
 some (.v (.bool false),[.dead])
 else none:=by kernel_rfl

theorem in20:Entered 20:=⟨Try.f20,b20,by kernel_rfl,by kernel_rfl,by kernel_rfl⟩
theorem fn20 (m:Ev.Module) {res:AV Ty} {outs:List (AV Ty)} (h:Ends C20 U20 (R20 m) [.code b20] ⟨slotsA (a20 m) 0 0,heapA (a20 m)⟩ (some (res,outs))):CallOk tb Try.prog 20 (a20 m) res outs:=by
 obtain ⟨n0,hn⟩:=h
 exact fn_ok (C:=C20) (U:=U20) (n:=0+n0) (q:= .keep) tbOk good (fun f mu S h=>by
  unfold C20 at h
  simp only at h
  split at h
  ·cases h;exact ⟨in33,S33_ok⟩
  ·cases h;exact ⟨in74,S74_ok⟩
  ·cases h) mixed (fn:=Try.f20) (body:=b20) (by kernel_rfl) (by kernel_rfl) rfl rfl (by show 1≤10;omega) (hn 0)
theorem fit_ok (m:Ev.Module) (h:wideM m):CallOk tb Try.prog 20 (a20 m) (.v (.bool (fitB m))) [.dead]:=by
 have e0:(Module.mk m.externs m.globals m.tables m.funcs)=m:=rfl
 refine fn20 m (.step fun J=> ?_)
 rw [e20,e0]
 unfold fitB
 cases hs:smallB m with
 |true=>
  have hm:okM m:=smallM.ok (of_decide_eq_true hs)
  simp (disch:=first|omega|assumption|(rw [dT];omega)|(rw [dF];omega)) only [↓iP,↓iN,iT,iF,wrap_up,tN,Nat.zero_add,h,hm]
 |false=>simp (disch:=first|omega|assumption|(rw [dT];omega)|(rw [dF];omega)) only [↓iP,↓iN,iT,iF,wrap_up,tN,Nat.zero_add,h,Bool.false_eq_true]
theorem fitB_q {m:Ev.Module} (h:fitB m=true):smallM m∧CheckQ m:=by
 unfold fitB at h
 cases hs:smallB m with
 |true=>
  rw [hs] at h
  have hm:smallM m:=of_decide_eq_true hs
  exact ⟨hm,(checkI_ok m (smallM.ok hm)).2 (beq_iff_eq.1 h)⟩
 |false=>rw [hs] at h;cases h
noncomputable def S20:List (AV Ty)→T (AV Ty×List (AV Ty))
 |[.agg x]=>match cod27.dec false x with
  |some m=> .ite (wideM m) (wideM.dec m) (.ret (.v (.bool (fitB m)),[.dead])) .fail
  |none=> .fail
 |_=> .fail
theorem S20_ok (l:List (AV Ty)) (r:AV Ty) (outs:List (AV Ty)) (h:(S20 l).val=some (r,outs)):CallOk tb Try.prog 20 l r outs:=by
 unfold S20 at h
 split at h
 ·rename_i x
  split at h
  ·rename_i m e1
   rcases ite_val h with ⟨e,h⟩|⟨_,h⟩
   ·cases h
    have h1:=cod27_ok.dec false x m e1
    subst h1
    exact fit_ok m e
   ·cases h
  ·cases h
 ·cases h
end Go.Proofs.Ytggibjbcbicpjaa.Ev
namespace Go.Proofs.Ytggibjbcbicpjaa.Ev
open Go
set_option linter.unusedVariables false
set_option linter.unusedSimpArgs false
theorem and16 (a:Int):0≤bitsI .and .i64 a 65535∧bitsI .and .i64 a 65535≤65535:=by
 have h:(BitVec.ofInt 64 a &&& BitVec.ofInt 64 65535).toNat≤65535:=by
  rw [BitVec.toNat_and]
  exact Nat.and_le_right
 have e:bitsI .and .i64 a 65535=((BitVec.ofInt 64 a &&& BitVec.ofInt 64 65535).toNat:Int):=wrap_up (x:=((BitVec.ofInt 64 a &&& BitVec.ofInt 64 65535).toNat:Int)) (by omega)
 omega
theorem pick_ok {a n:Int} (h:0<n): ∃k:Nat,(bitsI .and .i64 a 65535).tmod n=k∧(k:Int)<n:=by
 have h0:=and16 a
 have h1:=Int.tmod_nonneg n h0.1
 have h2:=Int.tmod_lt_of_pos (bitsI .and .i64 a 65535) h
 exact ⟨((bitsI .and .i64 a 65535).tmod n).toNat,by omega,by omega⟩
theorem set_is {α:Type} {l:List α} {i:Nat} {d y:α} (hi:i<l.length) (h:l=l.set i y):l.getD i d=y:=by
 have e:l.getD i d=(l.set i y).getD i d:=congrArg (fun z=>z.getD i d) h
 rw [e]
 simp [List.getD,List.getElem?_set,hi]
theorem wrI_is {l:List Ev.Block} {b k:Nat} {x:Ev.Ins} (hb:b<l.length) (hk:k<(l.getD b (Block.mk [])).ins.length) (h:l=wrI l b k x):rdI l b k=x:=by
 have e:=set_is (d:=(Block.mk [])) hb h
 have e2:=congrArg Block.ins e
 exact set_is hk e2
theorem wrap_other (x:Int):IntKind.i64.wrap (x+1)≠x:=by
 rw [IntKind.wrap_i64]
 omega
theorem xor_other (x:Int):bitsI .xor .i64 x 1≠x:=fun h=>by
 have h1:IntKind.i64.wrap (((BitVec.ofInt 64 x ^^^ BitVec.ofInt 64 1).toNat:Nat):Int)=x:=h
 have h2:BitVec.ofInt 64 (IntKind.i64.wrap (((BitVec.ofInt 64 x ^^^ BitVec.ofInt 64 1).toNat:Nat):Int))=BitVec.ofInt 64 x ^^^ BitVec.ofInt 64 1:=by
  apply BitVec.eq_of_toNat_eq
  rw [BitVec.toNat_ofInt,IntKind.wrap_i64]
  have:=(BitVec.ofInt 64 x ^^^ BitVec.ofInt 64 1).isLt
  generalize (BitVec.ofInt 64 x ^^^ BitVec.ofInt 64 1).toNat=n at*
  omega
 rw [h1] at h2
 have h3:BitVec.ofInt 64 x ^^^ BitVec.ofInt 64 x=BitVec.ofInt 64 x ^^^ (BitVec.ofInt 64 x ^^^ BitVec.ofInt 64 1):=congrArg _ h2
 rw [←BitVec.xor_assoc,BitVec.xor_self,BitVec.zero_xor] at h3
 exact absurd h3 (by decide)
theorem sameFun_is {f g:Ev.Func}:sameFun f g=true↔(f.name.toList=g.name.toList∧f.out=g.out∧f.result=g.result∧f.params=g.params∧f.blocks=g.blocks):=by
 unfold sameFun same3
 simp [and_assoc]
theorem okF_wr {f:Ev.Func} {b k:Nat} {x:Ev.Ins} (h:okF f) (hb:b<f.blocks.length) (hx:okIns x):okF ⟨f.name,f.out,f.params,f.result,wrI f.blocks b k x⟩:=by
 refine ⟨h.1,by rw [wrI_len];exact h.2.1,fun c hc=> ?_⟩
 rcases List.mem_or_eq_of_mem_set hc with hc|rfl
 ·exact h.2.2 c hc
 ·have h2:=h.2.2 _ (getD_mem (d:=(Block.mk [])) hb)
  refine ⟨by simp only [List.length_set];exact h2.1,fun i hi=> ?_⟩
  rcases List.mem_or_eq_of_mem_set hi with hi|rfl
  ·exact h2.2 i hi
  ·exact hx
theorem turned {m:Ev.Module} {K:Nat} {g:Ev.Func} (hm:okM m) (hK:K<m.funcs.length) (hg:okF g) (hn: ¬((m.funcs.getD K (Func.mk ByteArray.empty false [] 0 [])).name.toList=g.name.toList∧(m.funcs.getD K (Func.mk ByteArray.empty false [] 0 [])).out=g.out∧(m.funcs.getD K (Func.mk ByteArray.empty false [] 0 [])).blocks=g.blocks)):
  okM ⟨m.externs,m.globals,m.tables,m.funcs.set K g⟩∧sameMo m ⟨m.externs,m.globals,m.tables,m.funcs.set K g⟩=false∧sameMo ⟨m.externs,m.globals,m.tables,m.funcs.set K g⟩ m=false:=by
 have e:(m.funcs.set K g).getD K (Func.mk ByteArray.empty false [] 0 [])=g:=by simp [List.getD,List.getElem?_set,hK]
 refine ⟨⟨⟨hm.1.1,hm.1.2.1,hm.1.2.2.1,by rw [List.length_set];exact hm.1.2.2.2⟩,hm.2.1,hm.2.2.1,hm.2.2.2.1,fun f hf=> ?_⟩,decide_eq_false fun h=> ?_,decide_eq_false fun h=> ?_⟩
 ·rcases List.mem_or_eq_of_mem_set hf with hf|rfl
  ·exact hm.2.2.2.2 f hf
  ·exact hg
 ·have h2:=h.2.2.2.2 K hK
  rw [e,sameFun_is] at h2
  exact hn ⟨h2.1,h2.2.1,h2.2.2.2.2⟩
 ·have h2:=h.2.2.2.2 K (by rw [List.length_set];exact hK)
  rw [e,sameFun_is] at h2
  exact hn ⟨h2.1.symm,h2.2.1.symm,h2.2.2.2.2.symm⟩
noncomputable def b11:Code:=bodyOf Try.f11
noncomputable def C11:Cfg Ty:=⟨fun
 |24=>some ([],S24)
 |20=>some ([],S20)
 |34=>some ([],S34)
 |48=>some ([],S48)
 |_=>none,fun
 |11=>true
 |122=>true
 |128=>true
 |_=>false,158,0⟩
def U11:Cuts:=⟨fun
 |0=>some [(5,none),(11,none)]
 |_=>none,fun _=>none,fun _=>none⟩
noncomputable def k11_j0:List Item:=[.code (sndC (sndC (sndC (sndC (sndC (sndC (sndC (sndC b11))))))))]
def a11 (m:Module) (k:Int) (b:Int) (i:Int) (which:Int):List (AV Ty):=[.agg [.sl false (91:Nat) m.externs, .sl false (94:Nat) m.globals, .sl false (96:Nat) m.tables, .sl false (33:Nat) m.funcs], .v (.int .i64 k), .v (.int .i64 b), .v (.int .i64 i), .v (.int .i64 which)]
noncomputable def R11 (m:Module) (k:Int) (b:Int) (i:Int) (which:Int):St Ty→EvR:=resT tb C11 Try.f11.results.toList .keep (a11 m k b i which)
def s11_j0 (m:Module) (k:Int) (b:Int) (i:Int) (which:Int) (h0:List Module) (h1:List Extern) (h1_1:List Global) (h1_2:List Table) (h1_3:List Func):St Ty:=St.mk [(5, .ptr (0) [] (0) (0)),(11, .ptr (1) [] (0) (0))] [some (Root.mk (27) false h0),some (Root.mk (27) true [Module.mk h1 h1_1 h1_2 h1_3])]
theorem e11 (J m k b i which):run tb C11 U11 J (R11 m k b i which) 4096 [.code b11] ⟨slotsA (a11 m k b i which) 0 0,heapA (a11 m k b i which)⟩=
 let z6:=([Module.mk m.externs m.globals m.tables m.funcs])
 let z5:=(0+((bitsI BinOp.and IntKind.i64 k 65535).tmod (↑m.funcs.length:Int)).toNat)
 let z2:=(m.funcs.getD z5 (Func.mk ByteArray.empty false [] 0 []))
 let z3:=(0+((bitsI BinOp.and IntKind.i64 b 65535).tmod (↑z2.blocks.length:Int)).toNat)
 let z7:=(↑(z2.blocks.getD z3 (Block.mk [])).ins.length:Int)
 let z4:=(0+((bitsI BinOp.and IntKind.i64 i 65535).tmod z7).toNat)
 let z1:=(rdI z2.blocks z3 z4)
 if wideM m then
 if (!fitB m)=false then
 if ((↑m.funcs.length:Int) == 0)=true then
 some (.v (.bool true),[.dead, .dead, .dead, .dead, .dead])
 else
 if okM m then
 if (↑m.funcs.length:Int)=0 then
 none
 else
 if 0≤(bitsI BinOp.and IntKind.i64 k 65535).tmod (↑m.funcs.length:Int) then
 if (bitsI BinOp.and IntKind.i64 k 65535).tmod (↑m.funcs.length:Int)<(↑m.funcs.length:Int) then
 if (↑z2.blocks.length:Int)=0 then
 none
 else
 if 0≤(bitsI BinOp.and IntKind.i64 b 65535).tmod (↑z2.blocks.length:Int) then
 if (bitsI BinOp.and IntKind.i64 b 65535).tmod (↑z2.blocks.length:Int)<(↑z2.blocks.length:Int) then
 if z7=0 then
 none
 else
 if 0≤(bitsI BinOp.and IntKind.i64 i 65535).tmod z7 then
 if (bitsI BinOp.and IntKind.i64 i 65535).tmod z7<z7 then
 if (bitsI BinOp.and IntKind.i64 which 7 == 0)=true then
 J k11_j0 (s11_j0 m k b i which z6 m.externs m.globals m.tables (m.funcs.set z5 (Func.mk z2.name z2.out z2.params z2.result (wrI z2.blocks z3 z4 (Ins.mk (IntKind.i64.wrap (z1.op+1)) z1.type_ z1.to_ z1.sym_ z1.num z1.args z1.into)))))
 else
 if (bitsI BinOp.and IntKind.i64 which 7 == 1)=true then
 J k11_j0 (s11_j0 m k b i which z6 m.externs m.globals m.tables (m.funcs.set z5 (Func.mk z2.name z2.out z2.params z2.result (wrI z2.blocks z3 z4 (Ins.mk z1.op (IntKind.i64.wrap (z1.type_+1)) z1.to_ z1.sym_ z1.num z1.args z1.into)))))
 else
 if (bitsI BinOp.and IntKind.i64 which 7 == 2)=true then
 J k11_j0 (s11_j0 m k b i which z6 m.externs m.globals m.tables (m.funcs.set z5 (Func.mk z2.name z2.out z2.params z2.result (wrI z2.blocks z3 z4 (Ins.mk z1.op z1.type_ (IntKind.i64.wrap (z1.to_+1)) z1.sym_ z1.num z1.args z1.into)))))
 else
 if (bitsI BinOp.and IntKind.i64 which 7 == 3)=true then
 J k11_j0 (s11_j0 m k b i which z6 m.externs m.globals m.tables (m.funcs.set z5 (Func.mk z2.name z2.out z2.params z2.result (wrI z2.blocks z3 z4 (Ins.mk z1.op z1.type_ z1.to_ (IntKind.i64.wrap (z1.sym_+1)) z1.num z1.args z1.into)))))
 else
 if (bitsI BinOp.and IntKind.i64 which 7 == 4)=true then
 J k11_j0 (s11_j0 m k b i which z6 m.externs m.globals m.tables (m.funcs.set z5 (Func.mk z2.name z2.out z2.params z2.result (wrI z2.blocks z3 z4 (Ins.mk z1.op z1.type_ z1.to_ z1.sym_ (bitsI BinOp.xor IntKind.i64 z1.num 1) z1.args z1.into)))))
 else
 if (bitsI BinOp.and IntKind.i64 which 7 == 5)=true then
 if ([]:List Int).length+z1.args.length+1≤549755813888∧(([]:List Int).length+z1.args.length+1)*8≤549755813888 then
 if ([]++z1.args).length+[0].length+1≤549755813888∧(([]++z1.args).length+[0].length+1)*8≤549755813888 then
 J k11_j0 (s11_j0 m k b i which z6 m.externs m.globals m.tables (m.funcs.set z5 (Func.mk z2.name z2.out z2.params z2.result (wrI z2.blocks z3 z4 (Ins.mk z1.op z1.type_ z1.to_ z1.sym_ z1.num ([]++z1.args++[0]) z1.into)))))
 else none
 else none
 else
 if (bitsI BinOp.and IntKind.i64 which 7 == 6)=true then
 J k11_j0 (s11_j0 m k b i which z6 m.externs m.globals m.tables (m.funcs.set z5 (Func.mk z2.name (!z2.out) z2.params z2.result z2.blocks)))
 else
 if (↑(z2.name.size+(ByteArray.mk (Array.mk [(120:UInt8)])).size):Int)>if true=true then 2 ^ (64-1)-1 else 2 ^ 64-1 then
 none
 else
 J k11_j0 (s11_j0 m k b i which z6 m.externs m.globals m.tables (m.funcs.set z5 (Func.mk (z2.name++ByteArray.mk (Array.mk [(120:UInt8)])) z2.out z2.params z2.result z2.blocks)))
 else none
 else none
 else none
 else none
 else none
 else none
 else none
 else
 some (.v (.bool true),[.dead, .dead, .dead, .dead, .dead])
 else none:=by kernel_rfl
theorem e11_j0 (J m k b i which h0 h1 h1_1 h1_2 h1_3):run tb C11 U11 J (R11 m k b i which) 4096 k11_j0 (s11_j0 m k b i which h0 h1 h1_1 h1_2 h1_3)=
 let z1:=(h0.getD (0) (Module.mk [] [] [] []))
 if okM z1 then
 if (!sameMo z1 (Module.mk h1 h1_1 h1_2 h1_3))=true then
 if okM (Module.mk h1 h1_1 h1_2 h1_3) then
 if (!sameMo (Module.mk h1 h1_1 h1_2 h1_3) z1)=true then
 if okM z1 then
 if okM z1 then
 some (.v (.bool (sameMo z1 z1)),[.dead, .dead, .dead, .dead, .dead])
 else none
 else none
 else
 some (.v (.bool false),[.dead, .dead, .dead, .dead, .dead])
 else none
 else
 some (.v (.bool false),[.dead, .dead, .dead, .dead, .dead])
 else none:=by kernel_rfl

theorem fn11 (m:Ev.Module) (k b i which:Int) {res:AV Ty} {outs:List (AV Ty)} (h:Ends C11 U11 (R11 m k b i which) [.code b11] ⟨slotsA (a11 m k b i which) 0 0,heapA (a11 m k b i which)⟩ (some (res,outs))):CallOk tb Try.prog 11 (a11 m k b i which) res outs:=by
 obtain ⟨n0,hn⟩:=h
 exact fn_ok (C:=C11) (U:=U11) (n:=0+n0) (q:= .keep) tbOk good (fun f mu S h=>by
  unfold C11 at h
  simp only at h
  split at h
  ·cases h;exact ⟨in24,S24_ok⟩
  ·cases h;exact ⟨in20,S20_ok⟩
  ·cases h;exact ⟨in34,S34_ok⟩
  ·cases h;exact ⟨in48,S48_ok⟩
  ·cases h) mixed (fn:=Try.f11) (body:=b11) (by kernel_rfl) (by kernel_rfl) rfl rfl (by show 5≤158;omega) (hn 0)
abbrev rT:EvR:=some (.v (.bool true),[.dead, .dead, .dead, .dead, .dead])
theorem turned_ok (m:Ev.Module) (k b i which:Int) (hw:wideM m):CallOk tb Try.prog 11 (a11 m k b i which) (.v (.bool true)) [.dead, .dead, .dead, .dead, .dead]:=by
 have hE:=fun J=>e11 J m k b i which
 refine fn11 m k b i which ?_
 cases hf:fitB m with
 |false=>
  simp only [if_pos hw,hf,Bool.not_false,Bool.true_eq_false,if_false] at hE
  exact .step hE
 |true=>
  have hq:=fitB_q hf
  have hm:=hq.1.ok
  have hml:=hm.1.2.2.2
  have e0:(Module.mk m.externs m.globals m.tables m.funcs)=m:=rfl
  by_cases h0:m.funcs.length=0
  ·have b0:((m.funcs.length:Int) == 0)=true:=by rw [h0];rfl
   simp only [if_pos hw,hf,Bool.not_true,if_true,b0] at hE
   exact .step hE
  obtain ⟨K,hK,hKl⟩:=pick_ok (a:=k) (n:=(m.funcs.length:Int)) (by omega)
  have hKn:K<m.funcs.length:=by omega
  have b0:((m.funcs.length:Int) == 0)=false:=beq_eq_false_iff_ne.2 (by omega)
  have hF:okF (m.funcs.getD K (Func.mk ByteArray.empty false [] 0 [])):=hm.f hKn
  have hL:lightF (m.funcs.getD K (Func.mk ByteArray.empty false [] 0 [])):=hq.1.2.2.2.2.1 _ (getD_mem hKn)
  have hB:=hq.2.1 K hKn
  have hC:=(hq.2.2.2.2 K hKn).1.1
  have hT:=fun g hg hn=>turned (m:=m) (K:=K) (g:=g) hm hKn hg hn
  simp only [if_pos hw,hf,Bool.not_true,b0,hK,Int.toNat_natCast,Nat.zero_add,e0] at hE
  generalize m.funcs.getD K (Func.mk ByteArray.empty false [] 0 [])=f at hF hL hB hC hT hE
  have hi: ¬(m.funcs.length:Int)=0:=by omega
  have hk0:(0:Int)≤(K:Int):=by omega
  have hib: ¬(f.blocks.length:Int)=0:=by omega
  obtain ⟨B,hBe,hBl⟩:=pick_ok (a:=b) (n:=(f.blocks.length:Int)) (by omega)
  have hBn:B<f.blocks.length:=by omega
  have hb0:(0:Int)≤(B:Int):=by omega
  have hc:=hC B hBn
  have hii: ¬((f.blocks.getD B (Block.mk [])).ins.length:Int)=0:=by omega
  obtain ⟨I,hIe,hIl⟩:=pick_ok (a:=i) (n:=((f.blocks.getD B (Block.mk [])).ins.length:Int)) (by omega)
  have hIn:I<(f.blocks.getD B (Block.mk [])).ins.length:=by omega
  have hi0:(0:Int)≤(I:Int):=by omega
  simp only [if_pos hm,if_neg hi,if_pos hk0,if_pos hKl,if_true,Bool.false_eq_true,if_false,if_neg hib,hBe,Int.toNat_natCast,Nat.zero_add,if_pos hb0,if_pos hBl,if_neg hii,hIe,if_pos hi0,if_pos hIl] at hE
  have hx:okIns (rdI f.blocks B I):=(hF.2.2 _ (getD_mem (d:=(Block.mk [])) hBn)).2 _ (getD_mem (d:=(Ins.mk 0 0 0 0 0 [] [])) hIn)
  have hx2:=(hL.2.2.2.2 _ (getD_mem (d:=(Block.mk [])) hBn) _ (getD_mem (d:=(Ins.mk 0 0 0 0 0 [] [])) hIn)).1
  have hx3:(rdI f.blocks B I).args.length≤20:=hx2
  have key: ∀g,okF g→ ¬(f.name.toList=g.name.toList∧f.out=g.out∧f.blocks=g.blocks)→Ends C11 U11 (R11 m k b i which) k11_j0 (s11_j0 m k b i which [m] m.externs m.globals m.tables (m.funcs.set K g)) rT:=fun g hg hn=> .step fun J=>by
   obtain ⟨h1,h2,h3⟩:=hT g hg hn
   rw [e11_j0]
   simp only [List.getD_cons_zero,if_pos hm,if_pos h1,h2,h3,Bool.not_false,if_true,sameMo_self]
  have keyI: ∀x,okIns x→rdI f.blocks B I≠x→Ends C11 U11 (R11 m k b i which) k11_j0 (s11_j0 m k b i which [m] m.externs m.globals m.tables (m.funcs.set K ⟨f.name,f.out,f.params,f.result,wrI f.blocks B I x⟩)) rT:=fun x hx hn=>key _ (okF_wr hF hBn hx) fun h=>hn (wrI_is hBn hIn h.2.2)
  generalize rdI f.blocks B I=x at hx hx3 keyI hE
  by_cases w0:(bitsI .and .i64 which 7 == 0)=true
  ·simp only [w0,if_true] at hE
   exact (Goes.step hE).ends (keyI _ hx fun h=>wrap_other _ (congrArg Ins.op h).symm)
  simp only [if_neg w0] at hE
  by_cases w1:(bitsI .and .i64 which 7 == 1)=true
  ·simp only [w1,if_true] at hE
   exact (Goes.step hE).ends (keyI _ hx fun h=>wrap_other _ (congrArg Ins.type_ h).symm)
  simp only [if_neg w1] at hE
  by_cases w2:(bitsI .and .i64 which 7 == 2)=true
  ·simp only [w2,if_true] at hE
   exact (Goes.step hE).ends (keyI _ hx fun h=>wrap_other _ (congrArg Ins.to_ h).symm)
  simp only [if_neg w2] at hE
  by_cases w3:(bitsI .and .i64 which 7 == 3)=true
  ·simp only [w3,if_true] at hE
   exact (Goes.step hE).ends (keyI _ hx fun h=>wrap_other _ (congrArg Ins.sym_ h).symm)
  simp only [if_neg w3] at hE
  by_cases w4:(bitsI .and .i64 which 7 == 4)=true
  ·simp only [w4,if_true] at hE
   exact (Goes.step hE).ends (keyI _ hx fun h=>xor_other _ (congrArg Ins.num h).symm)
  simp only [if_neg w4] at hE
  by_cases w5:(bitsI .and .i64 which 7 == 5)=true
  ·simp only [w5,if_true,List.nil_append,List.length_nil,List.length_singleton] at hE
   have c1:0+x.args.length+1≤549755813888∧(0+x.args.length+1)*8≤549755813888:=by omega
   have c2:x.args.length+1+1≤549755813888∧(x.args.length+1+1)*8≤549755813888:=by omega
   simp only [if_pos c1,if_pos c2] at hE
   exact (Goes.step hE).ends (keyI _ ⟨by simp only [List.length_append,List.length_singleton];omega,hx.2⟩ fun h=>by have h1:=congrArg (fun z=>z.args.length) h;simp at h1)
  simp only [if_neg w5] at hE
  by_cases w6:(bitsI .and .i64 which 7 == 6)=true
  ·simp only [w6,if_true] at hE
   exact (Goes.step hE).ends (key _ hF fun h=>by have:=h.2.1;cases hh:f.out<;>rw [hh] at this<;>cases this)
  simp only [if_neg w6] at hE
  have hn:f.name.size≤40:=hL.1
  refine (Goes.step fun J=>(hE J).trans (if_neg ?_)).ends (key _ hF fun h=> ?_)
  ·have e1:(ByteArray.mk (Array.mk [(120:UInt8)])).size=1:=rfl
   rw [e1]
   omega
  ·have h1:=congrArg List.length h.1
   rw [ByteArray.toList_eq,ByteArray.toList_eq,ByteArray.data_append] at h1
   simp at h1
end Go.Proofs.Ytggibjbcbicpjaa.Ev
namespace Go.Proofs.Ytggibjbcbicpjaa.Ev
open Go
set_option linter.unusedVariables false
set_option linter.unusedSimpArgs false
theorem reads:Reads tb:=by
 intro t h
 have h0:isRd tb t=true:=h
 have h:hasA t=true:=isRd_has h
 unfold hasA at h
 split at h
 ·refine ⟨by show 0<1;omega,[.int .i64],by kernel_rfl,rfl,fun l h=> ?_⟩
  match l,h.1 with
  |[a0],_=>
   obtain ⟨_,rfl⟩:=leaf_int (h.2 0 _ _ rfl rfl)
   exact ⟨_,rfl⟩
 ·refine ⟨by show 0<1;omega,[.int .i64],by kernel_rfl,rfl,fun l h=> ?_⟩
  match l,h.1 with
  |[a0],_=>
   obtain ⟨_,rfl⟩:=leaf_int (h.2 0 _ _ rfl rfl)
   exact ⟨_,rfl⟩
 ·refine ⟨by show 0<1;omega,[.bool],by kernel_rfl,rfl,fun l h=> ?_⟩
  match l,h.1 with
  |[a0],_=>
   obtain ⟨_,rfl⟩:=leaf_bool (h.2 0 _ _ rfl rfl)
   exact ⟨_,rfl⟩
 ·refine ⟨by show 0<1;omega,[.int .u8],by kernel_rfl,rfl,fun l h=> ?_⟩
  match l,h.1 with
  |[a0],_=>
   obtain ⟨_,rfl⟩:=leaf_int (h.2 0 _ _ rfl rfl)
   exact ⟨_,rfl⟩
 ·refine ⟨by show 0<1;omega,[.str],by kernel_rfl,rfl,fun l h=> ?_⟩
  match l,h.1 with
  |[a0],_=>
   obtain ⟨_,rfl⟩:=leaf_str (h.2 0 _ _ rfl rfl)
   exact ⟨_,rfl⟩
 ·refine ⟨by show 0<1;omega,[.sl 91],by kernel_rfl,rfl,fun l h=> ?_⟩
  match l,h.1 with
  |[a0],_=>
   obtain ⟨_,rfl⟩:=leaf_sl (h.2 0 _ _ rfl rfl)
   exact ⟨_,rfl⟩
 ·refine ⟨by show 0<1;omega,[.sl 94],by kernel_rfl,rfl,fun l h=> ?_⟩
  match l,h.1 with
  |[a0],_=>
   obtain ⟨_,rfl⟩:=leaf_sl (h.2 0 _ _ rfl rfl)
   exact ⟨_,rfl⟩
 ·refine ⟨by show 0<1;omega,[.sl 96],by kernel_rfl,rfl,fun l h=> ?_⟩
  match l,h.1 with
  |[a0],_=>
   obtain ⟨_,rfl⟩:=leaf_sl (h.2 0 _ _ rfl rfl)
   exact ⟨_,rfl⟩
 ·refine ⟨by show 0<1;omega,[.sl 33],by kernel_rfl,rfl,fun l h=> ?_⟩
  match l,h.1 with
  |[a0],_=>
   obtain ⟨_,rfl⟩:=leaf_sl (h.2 0 _ _ rfl rfl)
   exact ⟨_,rfl⟩
 ·refine ⟨by show 0<4;omega,[.sl 91, .sl 94, .sl 96, .sl 33],by kernel_rfl,rfl,fun l h=> ?_⟩
  match l,h.1 with
  |[a0,a1,a2,a3],_=>
   obtain ⟨_,rfl⟩:=leaf_sl (h.2 0 _ _ rfl rfl)
   obtain ⟨_,rfl⟩:=leaf_sl (h.2 1 _ _ rfl rfl)
   obtain ⟨_,rfl⟩:=leaf_sl (h.2 2 _ _ rfl rfl)
   obtain ⟨_,rfl⟩:=leaf_sl (h.2 3 _ _ rfl rfl)
   exact ⟨_,rfl⟩
 ·refine ⟨by show 0<1;omega,[.sl 3],by kernel_rfl,rfl,fun l h=> ?_⟩
  match l,h.1 with
  |[a0],_=>
   obtain ⟨_,rfl⟩:=leaf_sl (h.2 0 _ _ rfl rfl)
   exact ⟨_,rfl⟩
 ·refine ⟨by show 0<1;omega,[.sl 44],by kernel_rfl,rfl,fun l h=> ?_⟩
  match l,h.1 with
  |[a0],_=>
   obtain ⟨_,rfl⟩:=leaf_sl (h.2 0 _ _ rfl rfl)
   exact ⟨_,rfl⟩
 ·refine ⟨by show 0<5;omega,[.str, .bool, .sl 3, .int .i64, .sl 44],by kernel_rfl,rfl,fun l h=> ?_⟩
  match l,h.1 with
  |[a0,a1,a2,a3,a4],_=>
   obtain ⟨_,rfl⟩:=leaf_str (h.2 0 _ _ rfl rfl)
   obtain ⟨_,rfl⟩:=leaf_bool (h.2 1 _ _ rfl rfl)
   obtain ⟨_,rfl⟩:=leaf_sl (h.2 2 _ _ rfl rfl)
   obtain ⟨_,rfl⟩:=leaf_int (h.2 3 _ _ rfl rfl)
   obtain ⟨_,rfl⟩:=leaf_sl (h.2 4 _ _ rfl rfl)
   exact ⟨_,rfl⟩
 ·refine ⟨by show 0<1;omega,[.sl 46],by kernel_rfl,rfl,fun l h=> ?_⟩
  match l,h.1 with
  |[a0],_=>
   obtain ⟨_,rfl⟩:=leaf_sl (h.2 0 _ _ rfl rfl)
   exact ⟨_,rfl⟩
 ·refine ⟨by show 0<1;omega,[.sl 46],by kernel_rfl,rfl,fun l h=> ?_⟩
  match l,h.1 with
  |[a0],_=>
   obtain ⟨_,rfl⟩:=leaf_sl (h.2 0 _ _ rfl rfl)
   exact ⟨_,rfl⟩
 ·refine ⟨by show 0<7;omega,[.int .i64, .int .i64, .int .i64, .int .i64, .int .i64, .sl 3, .sl 3],by kernel_rfl,rfl,fun l h=> ?_⟩
  match l,h.1 with
  |[a0,a1,a2,a3,a4,a5,a6],_=>
   obtain ⟨_,rfl⟩:=leaf_int (h.2 0 _ _ rfl rfl)
   obtain ⟨_,rfl⟩:=leaf_int (h.2 1 _ _ rfl rfl)
   obtain ⟨_,rfl⟩:=leaf_int (h.2 2 _ _ rfl rfl)
   obtain ⟨_,rfl⟩:=leaf_int (h.2 3 _ _ rfl rfl)
   obtain ⟨_,rfl⟩:=leaf_int (h.2 4 _ _ rfl rfl)
   obtain ⟨_,rfl⟩:=leaf_sl (h.2 5 _ _ rfl rfl)
   obtain ⟨_,rfl⟩:=leaf_sl (h.2 6 _ _ rfl rfl)
   exact ⟨_,rfl⟩
 ·refine ⟨by show 0<1;omega,[.sl 30],by kernel_rfl,rfl,fun l h=> ?_⟩
  match l,h.1 with
  |[a0],_=>
   obtain ⟨_,rfl⟩:=leaf_sl (h.2 0 _ _ rfl rfl)
   exact ⟨_,rfl⟩
 ·refine ⟨by show 0<1;omega,[.sl 4],by kernel_rfl,rfl,fun l h=> ?_⟩
  match l,h.1 with
  |[a0],_=>
   obtain ⟨_,rfl⟩:=leaf_sl (h.2 0 _ _ rfl rfl)
   exact ⟨_,rfl⟩
 ·refine ⟨by show 0<3;omega,[.str, .sl 3, .int .i64],by kernel_rfl,rfl,fun l h=> ?_⟩
  match l,h.1 with
  |[a0,a1,a2],_=>
   obtain ⟨_,rfl⟩:=leaf_str (h.2 0 _ _ rfl rfl)
   obtain ⟨_,rfl⟩:=leaf_sl (h.2 1 _ _ rfl rfl)
   obtain ⟨_,rfl⟩:=leaf_int (h.2 2 _ _ rfl rfl)
   exact ⟨_,rfl⟩
 ·refine ⟨by show 0<1;omega,[.sl 2],by kernel_rfl,rfl,fun l h=> ?_⟩
  match l,h.1 with
  |[a0],_=>
   obtain ⟨_,rfl⟩:=leaf_sl (h.2 0 _ _ rfl rfl)
   exact ⟨_,rfl⟩
 ·refine ⟨by show 0<2;omega,[.str, .sl 2],by kernel_rfl,rfl,fun l h=> ?_⟩
  match l,h.1 with
  |[a0,a1],_=>
   obtain ⟨_,rfl⟩:=leaf_str (h.2 0 _ _ rfl rfl)
   obtain ⟨_,rfl⟩:=leaf_sl (h.2 1 _ _ rfl rfl)
   exact ⟨_,rfl⟩
 ·refine ⟨by show 0<2;omega,[.str, .sl 3],by kernel_rfl,rfl,fun l h=> ?_⟩
  match l,h.1 with
  |[a0,a1],_=>
   obtain ⟨_,rfl⟩:=leaf_str (h.2 0 _ _ rfl rfl)
   obtain ⟨_,rfl⟩:=leaf_sl (h.2 1 _ _ rfl rfl)
   exact ⟨_,rfl⟩
 ·refine ⟨by show 0<1;omega,[.sl 71],by kernel_rfl,rfl,fun l h=> ?_⟩
  match l,h.1 with
  |[a0],_=>
   obtain ⟨_,rfl⟩:=leaf_sl (h.2 0 _ _ rfl rfl)
   exact ⟨_,rfl⟩
 ·cases (show false=true from h0)
 ·cases h
end Go.Proofs.Ytggibjbcbicpjaa.Ev
namespace Go.Proofs.Ytggibjbcbicpjaa.Ev
open Go
set_option linter.unusedVariables false
theorem heavy:Heavy tb Try.prog:=by
 intro t i e h hd _
 have h:tiA t=some i:=h
 unfold tiA at h
 split at h<;>first|cases h|skip
 all_goals first|(cases hd;done)|(cases hd;exact of_decide_eq_true (by kernel_rfl))
end Go.Proofs.Ytggibjbcbicpjaa.Ev
namespace Go.Proofs.Ytggibjbcbicpjaa.Ev
open Go
set_option linter.unusedVariables false
theorem fine_row {t:Nat} {xs:List (Ty t)} (h:FineW tb (.sl false t xs)):xs.length≤140737488351232∧ ∀x,x∈xs→ ∀(o:Nat) a,((codA t).enc false x)[o]? =some a→FineW tb a:=by
 cases h with
 |sl _ _ h1 h2=>exact ⟨h1,h2⟩
theorem wide_of {f:Ev.Func} (h: ∀(o:Nat) a,((codA 33).enc false f)[o]? =some a→FineW tb a):wideF f:=fun b hb=>by
 have h4:FineW tb (.sl false 44 f.blocks):=h 4 _ rfl
 have h5:FineW tb (.sl false 46 b.ins):=(fine_row h4).2 b hb 0 _ rfl
 exact (fine_row h5).1
theorem weigh {P:Program} {H:Type} {t:TypeId} {ts:List TypeId} {d:DataW H} {ds:List (DataW H)} {j:Nat} (h:(DataW.weightsEach P ts ds).all (· ≤reachBytes)=true) (h1:ts[j]? =some t) (h2:ds[j]? =some d): ∀n,n∈d.weights P t→n≤reachBytes:=fun n hn=>
 of_decide_eq_true (List.all_eq_true.1 h n (DataW.weights_mem_each h1 h2 n hn))
end Go.Proofs.Ytggibjbcbicpjaa.Ev
namespace Go.Proofs.Ytggibjbcbicpjaa.Ev
open Go
set_option linter.unusedVariables false
def modA (m:Ev.Module):AV Ty:= .agg ((codA 27).enc false m)
theorem wideM_of {m:Ev.Module} (h: ∀(o:Nat) a,((codA 27).enc false m)[o]? =some a→FineW tb a):wideM m:=fun f hf=>by
 have h3:FineW tb (.sl false 33 m.funcs):=h 3 _ rfl
 exact wide_of ((fine_row h3).2 f hf)
theorem open_mod {W:World} {H:Type} {enc:TypeId×Value→H} {spare:Nat→Bool} {held:Bool} {fuel:Nat} {cs:Array Value} {x:DataW H×List MemPlace} (h:DataW.trod enc Try.prog W 0 spare held fuel 27 cs.toList=some x) (hw: ∀n,n∈x.1.weights Try.prog 27→n≤reachBytes):
  ∃m:Ev.Module,Rep tb (fun b _=>b<W.heap.size) W (.agg cs) (modA m)∧wideM m:=by
 obtain ⟨m,h1,h2⟩:=open_tyW tbOk good reads heavy (t:=27) h hw rfl
 have hl:((codA 27).enc false m).length=szOf tb 27:=good.len 27 false m
 refine ⟨m, .agg cs _ ?_ fun i v a e1 e2=>(h2 i v a (by simpa using e1) e2).2,wideM_of fun o a e=> ?_⟩
 ·rw [hl,←h1]
  simp
 ·have ho:o<cs.toList.length:=by rw [h1,←hl];exact get_lt e
  exact (h2 o _ a (List.getElem?_eq_getElem ho) e).1
end Go.Proofs.Ytggibjbcbicpjaa.Ev
