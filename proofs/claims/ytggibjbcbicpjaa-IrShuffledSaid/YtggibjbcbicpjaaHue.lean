/- The evaluator, what it gives of the functions that are called, and the plain law: part 5 of 6. -/
import Derived.Test.YtggibjbcbicpjaaHud
namespace Go.Proofs.Ytggibjbcbicpjaa.Ev
open Go
set_option linter.unusedVariables false
set_option linter.unusedSimpArgs false
section
variable {C:Cfg Ty} {U:Cuts} {Rt:St Ty→EvR} {k k' k'':List Item} {s s' s'':St Ty} {r rF:EvR}
theorem Ends.all (st:Nat→St Ty) (N:Nat) (P:Nat→Prop) (h: ∀i,i<N→P i→Goes C U Rt k (st i) k (st (i+1))) (he: ∀i,i<N→ ¬P i→Ends C U Rt k (st i) rF)
  (hend:(∀i,i<N→P i)→Ends C U Rt k (st N) r) (hr: ¬(∀i,i<N→P i)→r=rF):Ends C U Rt k (st 0) r:=by
 by_cases hp: ∀i,i<N→P i
 ·exact (Goes.upto st N (fun i hi=>h i hi (hp i hi)) N (Nat.le_refl _)).ends (hend hp)
 ·rw [hr hp]
  have: ∃j,j<N∧ ¬P j:=Classical.byContradiction fun hn=>hp fun j hj=>Classical.byContradiction fun hc=>hn ⟨j,hj,hc⟩
  obtain ⟨j,j1,j2⟩:=this
  exact Ends.at st N P h he _ 0 (Nat.zero_add _) ⟨j,Nat.zero_le _,j1,j2⟩
theorem Goes.shape {α:Type} (st:Nat→α→St Ty) (N:Nat) (P:α→Prop) (h: ∀i G,i<N→P G→ ∃G',P G'∧Goes C U Rt k (st i G) k (st (i+1) G')):
  ∀(m i:Nat) (G:α),i+m=N→P G→ ∃G',P G'∧Goes C U Rt k (st i G) k (st N G')
 |0,i,G,hi,hP=>⟨G,hP,by rw [show i=N by omega];exact .refl⟩
 |m+1,i,G,hi,hP=>by
  obtain ⟨G1,h1,g1⟩:=h i G (by omega) hP
  obtain ⟨G2,h2,g2⟩:=Goes.shape st N P h m (i+1) G1 (by omega) h1
  exact ⟨G2,h2,g1.trans g2⟩
end
theorem all_getD {α:Type} {l:List α} {d:α} {P:α→Prop}:(∀i,i<l.length→P (l.getD i d))↔ ∀x,x∈l→P x:=by
 constructor
 ·intro h x hx
  obtain ⟨j,hj,e⟩:=List.getElem_of_mem hx
  have:=h j hj
  rw [List.getD_eq_getElem?_getD,List.getElem?_eq_getElem hj] at this
  exact e▸this
 ·intro h i hi
  exact h _ (getD_mem hi)
noncomputable def b32:Code:=bodyOf Try.f32
noncomputable def C32:Cfg Ty:=⟨fun
 |79=>some ([],S79)
 |_=>none,fun
 |2=>true
 |3=>true
 |5=>true
 |13=>true
 |48=>true
 |49=>true
 |54=>true
 |55=>true
 |400053=>true
 |400057=>true
 |_=>false,58,0⟩
def U32:Cuts:=⟨fun
 |0=>some [(2,none),(3,none)]
 |1=>some [(1,none),(2,none),(3,none),(4,none)]
 |2=>some [(1,none),(2,none),(3,none),(4,none),(5,none)]
 |_=>none,fun
 |0=>some [(1,none),(2,none),(3,none),(4,none)]
 |2=>some [(1,none),(2,none),(3,none),(4,none),(5,none),(6,none)]
 |_=>none,fun
 |1=>some [0,1,2,3,4,5,7,8,1000,6,9,10,1000,11]
 |9=>some [0,1,2,3,4,5,6,7,8,9,10,11,12,13,14,15]
 |_=>none⟩
noncomputable def k32_j0:List Item:=[.code (sndC (sndC (sndC b32)))]
noncomputable def k32_l0:List Item:=[.code (inC (inC (sndC (fstC (sndC (sndC b32)))))), .inLoop (inC (inC (sndC (fstC (sndC (sndC b32)))))), .inBlock 0, .code (sndC (sndC (sndC b32)))]
noncomputable def k32_j1:List Item:=[.code (sndC (sndC (inC (inC (sndC (fstC (sndC (sndC b32)))))))), .inLoop (inC (inC (sndC (fstC (sndC (sndC b32)))))), .inBlock 0, .code (sndC (sndC (sndC b32)))]
noncomputable def k32_j2:List Item:=[.code (sndC (sndC (inC (fstC (sndC (inC (inC (sndC (fstC (sndC (sndC b32))))))))))), .inBlock 1, .code (sndC (sndC (inC (inC (sndC (fstC (sndC (sndC b32)))))))), .inLoop (inC (inC (sndC (fstC (sndC (sndC b32)))))), .inBlock 0, .code (sndC (sndC (sndC b32)))]
noncomputable def k32_l2:List Item:=[.code (inC (inC (sndC (fstC (sndC (inC (fstC (sndC (inC (inC (sndC (fstC (sndC (sndC b32)))))))))))))), .inLoop (inC (inC (sndC (fstC (sndC (inC (fstC (sndC (inC (inC (sndC (fstC (sndC (sndC b32)))))))))))))), .inBlock 2, .code (sndC (sndC (inC (fstC (sndC (inC (inC (sndC (fstC (sndC (sndC b32))))))))))), .inBlock 1, .code (sndC (sndC (inC (inC (sndC (fstC (sndC (sndC b32)))))))), .inLoop (inC (inC (sndC (fstC (sndC (sndC b32)))))), .inBlock 0, .code (sndC (sndC (sndC b32)))]
def a32 (f:Func):List (AV Ty):=[.agg [.v (.string f.name), .v (.bool f.out), .sl false (3:Nat) f.params, .v (.int .i64 f.result), .sl false (44:Nat) f.blocks]]
noncomputable def R32 (f:Func):St Ty→EvR:=resT tb C32 Try.f32.results.toList .keep (a32 f)
def s32_l0 (f:Func) (v4:Int) (h0:List Func) (h1:ByteArray) (h1_1:Bool) (h1_2:List Int) (h1_3:Int) (h1_4:List Block) (h2:ByteArray) (h2_1:Bool) (h2_2:List Int) (h2_3:Int) (h2_4:List Block):St Ty:=St.mk [(1, .ptr (0) [] (0) (0)),(2, .ptr (1) [] (0) (0)),(3, .ptr (2) [] (0) (0)),(4, .v (.int .i64 v4))] [some (Root.mk (33) false h0),some (Root.mk (33) true [Func.mk h1 h1_1 h1_2 h1_3 h1_4]),some (Root.mk (33) true [Func.mk h2 h2_1 h2_2 h2_3 h2_4])]
def s32_l2 (f:Func) (v4:Int) (v6:Int) (h0:List Func) (h1:ByteArray) (h1_1:Bool) (h1_2:List Int) (h1_3:Int) (h1_4:List Block) (h2:ByteArray) (h2_1:Bool) (h2_2:List Int) (h2_3:Int) (h2_4:List Block) (h3:List Ins):St Ty:=St.mk [(1, .ptr (0) [] (0) (0)),(2, .ptr (1) [] (0) (0)),(3, .ptr (2) [] (0) (0)),(4, .v (.int .i64 v4)),(5, .ptr (3) [] (0) (0)),(6, .v (.int .i64 v6))] [some (Root.mk (33) false h0),some (Root.mk (33) true [Func.mk h1 h1_1 h1_2 h1_3 h1_4]),some (Root.mk (33) true [Func.mk h2 h2_1 h2_2 h2_3 h2_4]),some (Root.mk (44) true [Block.mk h3])]
def s32_j0 (f:Func) (h0:ByteArray) (h0_1:Bool) (h0_2:List Int) (h0_3:Int) (h0_4:List Block) (h1:ByteArray) (h1_1:Bool) (h1_2:List Int) (h1_3:Int) (h1_4:List Block):St Ty:=St.mk [(2, .ptr (0) [] (0) (0)),(3, .ptr (1) [] (0) (0))] [some (Root.mk (33) true [Func.mk h0 h0_1 h0_2 h0_3 h0_4]),some (Root.mk (33) true [Func.mk h1 h1_1 h1_2 h1_3 h1_4])]
def s32_j2 (f:Func) (v4:Int) (h0:List Func) (h1:ByteArray) (h1_1:Bool) (h1_2:List Int) (h1_3:Int) (h1_4:List Block) (h2:ByteArray) (h2_1:Bool) (h2_2:List Int) (h2_3:Int) (h2_4:List Block) (h3:List Ins):St Ty:=St.mk [(1, .ptr (0) [] (0) (0)),(2, .ptr (1) [] (0) (0)),(3, .ptr (2) [] (0) (0)),(4, .v (.int .i64 v4)),(5, .ptr (3) [] (0) (0))] [some (Root.mk (33) false h0),some (Root.mk (33) true [Func.mk h1 h1_1 h1_2 h1_3 h1_4]),some (Root.mk (33) true [Func.mk h2 h2_1 h2_2 h2_3 h2_4]),some (Root.mk (44) true [Block.mk h3])]
def s32_j1 (f:Func) (v4:Int) (h0:List Func) (h1:ByteArray) (h1_1:Bool) (h1_2:List Int) (h1_3:Int) (h1_4:List Block) (h2:ByteArray) (h2_1:Bool) (h2_2:List Int) (h2_3:Int) (h2_4:List Block):St Ty:=St.mk [(1, .ptr (0) [] (0) (0)),(2, .ptr (1) [] (0) (0)),(3, .ptr (2) [] (0) (0)),(4, .v (.int .i64 v4))] [some (Root.mk (33) false h0),some (Root.mk (33) true [Func.mk h1 h1_1 h1_2 h1_3 h1_4]),some (Root.mk (33) true [Func.mk h2 h2_1 h2_2 h2_3 h2_4])]
theorem e32 (J f):run tb C32 U32 J (R32 f) 4096 [.code b32] ⟨slotsA (a32 f) 0 0,heapA (a32 f)⟩=
 meet (
 if f.params.length+1≤549755813888∧(f.params.length+1)*8≤549755813888 then
 meet (
 J k32_l0 (s32_l0 f 0 ([Func.mk f.name f.out f.params f.result f.blocks]) ByteArray.empty false ([]) 0 ([]) f.name f.out f.params f.result ([]))
 ) (
 J k32_l0 (s32_l0 f 0 ([Func.mk f.name f.out f.params f.result f.blocks]) ByteArray.empty false ([]) 0 ([]) f.name f.out f.params f.result ([]))
 )
 else none
 ) (
 if f.params.length+1≤549755813888∧(f.params.length+1)*8≤549755813888 then
 J k32_l0 (s32_l0 f 0 ([Func.mk f.name f.out f.params f.result f.blocks]) ByteArray.empty false ([]) 0 ([]) f.name f.out f.params f.result ([]))
 else none
 ):=by kernel_rfl
theorem e32_l0 (J f v4 h0 h1 h1_1 h1_2 h1_3 h1_4 h2 h2_1 h2_2 h2_3 h2_4):run tb C32 U32 J (R32 f) 4096 k32_l0 (s32_l0 f v4 h0 h1 h1_1 h1_2 h1_3 h1_4 h2 h2_1 h2_2 h2_3 h2_4)=
 if decide (v4<(↑(h0.getD (0) (Func.mk ByteArray.empty false [] 0 [])).blocks.length:Int))=true then
 J k32_l2 (s32_l2 f v4 0 h0 h1 h1_1 h1_2 h1_3 h1_4 h2 h2_1 h2_2 h2_3 h2_4 ([]))
 else
 J k32_j0 (s32_j0 f h1 h1_1 h1_2 h1_3 h1_4 h2 h2_1 h2_2 h2_3 h2_4):=by kernel_rfl
theorem e32_l2 (J f v4 v6 h0 h1 h1_1 h1_2 h1_3 h1_4 h2 h2_1 h2_2 h2_3 h2_4 h3):run tb C32 U32 J (R32 f) 4096 k32_l2 (s32_l2 f v4 v6 h0 h1 h1_1 h1_2 h1_3 h1_4 h2 h2_1 h2_2 h2_3 h2_4 h3)=
 if 0≤v4 then
 if v4<(↑(h0.getD (0) (Func.mk ByteArray.empty false [] 0 [])).blocks.length:Int) then
 if decide (v6<(↑((h0.getD (0) (Func.mk ByteArray.empty false [] 0 [])).blocks.getD v4.toNat (Block.mk [])).ins.length:Int))=true then
 if 0≤v4 then
 if v4<(↑(h0.getD (0) (Func.mk ByteArray.empty false [] 0 [])).blocks.length:Int) then
 if 0≤v6 then
 if v6<(↑((h0.getD (0) (Func.mk ByteArray.empty false [] 0 [])).blocks.getD v4.toNat (Block.mk [])).ins.length:Int) then
 if (((h0.getD (0) (Func.mk ByteArray.empty false [] 0 [])).blocks.getD v4.toNat (Block.mk [])).ins.getD v6.toNat (Ins.mk 0 0 0 0 0 [] [])).args.length≤1000∧(((h0.getD (0) (Func.mk ByteArray.empty false [] 0 [])).blocks.getD v4.toNat (Block.mk [])).ins.getD v6.toNat (Ins.mk 0 0 0 0 0 [] [])).into.length≤1000 then
 if h3.length+[Ins.mk (((h0.getD (0) (Func.mk ByteArray.empty false [] 0 [])).blocks.getD v4.toNat (Block.mk [])).ins.getD v6.toNat (Ins.mk 0 0 0 0 0 [] [])).op (((h0.getD (0) (Func.mk ByteArray.empty false [] 0 [])).blocks.getD v4.toNat (Block.mk [])).ins.getD v6.toNat (Ins.mk 0 0 0 0 0 [] [])).type_ (((h0.getD (0) (Func.mk ByteArray.empty false [] 0 [])).blocks.getD v4.toNat (Block.mk [])).ins.getD v6.toNat (Ins.mk 0 0 0 0 0 [] [])).to_ (((h0.getD (0) (Func.mk ByteArray.empty false [] 0 [])).blocks.getD v4.toNat (Block.mk [])).ins.getD v6.toNat (Ins.mk 0 0 0 0 0 [] [])).sym_ (((h0.getD (0) (Func.mk ByteArray.empty false [] 0 [])).blocks.getD v4.toNat (Block.mk [])).ins.getD v6.toNat (Ins.mk 0 0 0 0 0 [] [])).num (((h0.getD (0) (Func.mk ByteArray.empty false [] 0 [])).blocks.getD v4.toNat (Block.mk [])).ins.getD v6.toNat (Ins.mk 0 0 0 0 0 [] [])).args (((h0.getD (0) (Func.mk ByteArray.empty false [] 0 [])).blocks.getD v4.toNat (Block.mk [])).ins.getD v6.toNat (Ins.mk 0 0 0 0 0 [] [])).into].length+1≤549755813888∧(h3.length+[Ins.mk (((h0.getD (0) (Func.mk ByteArray.empty false [] 0 [])).blocks.getD v4.toNat (Block.mk [])).ins.getD v6.toNat (Ins.mk 0 0 0 0 0 [] [])).op (((h0.getD (0) (Func.mk ByteArray.empty false [] 0 [])).blocks.getD v4.toNat (Block.mk [])).ins.getD v6.toNat (Ins.mk 0 0 0 0 0 [] [])).type_ (((h0.getD (0) (Func.mk ByteArray.empty false [] 0 [])).blocks.getD v4.toNat (Block.mk [])).ins.getD v6.toNat (Ins.mk 0 0 0 0 0 [] [])).to_ (((h0.getD (0) (Func.mk ByteArray.empty false [] 0 [])).blocks.getD v4.toNat (Block.mk [])).ins.getD v6.toNat (Ins.mk 0 0 0 0 0 [] [])).sym_ (((h0.getD (0) (Func.mk ByteArray.empty false [] 0 [])).blocks.getD v4.toNat (Block.mk [])).ins.getD v6.toNat (Ins.mk 0 0 0 0 0 [] [])).num (((h0.getD (0) (Func.mk ByteArray.empty false [] 0 [])).blocks.getD v4.toNat (Block.mk [])).ins.getD v6.toNat (Ins.mk 0 0 0 0 0 [] [])).args (((h0.getD (0) (Func.mk ByteArray.empty false [] 0 [])).blocks.getD v4.toNat (Block.mk [])).ins.getD v6.toNat (Ins.mk 0 0 0 0 0 [] [])).into].length+1)*88≤549755813888 then
 J k32_l2 (s32_l2 f v4 (IntKind.i64.wrap (v6+1)) h0 h1 h1_1 h1_2 h1_3 h1_4 h2 h2_1 h2_2 h2_3 h2_4 (h3++[Ins.mk (((h0.getD (0) (Func.mk ByteArray.empty false [] 0 [])).blocks.getD v4.toNat (Block.mk [])).ins.getD v6.toNat (Ins.mk 0 0 0 0 0 [] [])).op (((h0.getD (0) (Func.mk ByteArray.empty false [] 0 [])).blocks.getD v4.toNat (Block.mk [])).ins.getD v6.toNat (Ins.mk 0 0 0 0 0 [] [])).type_ (((h0.getD (0) (Func.mk ByteArray.empty false [] 0 [])).blocks.getD v4.toNat (Block.mk [])).ins.getD v6.toNat (Ins.mk 0 0 0 0 0 [] [])).to_ (((h0.getD (0) (Func.mk ByteArray.empty false [] 0 [])).blocks.getD v4.toNat (Block.mk [])).ins.getD v6.toNat (Ins.mk 0 0 0 0 0 [] [])).sym_ (((h0.getD (0) (Func.mk ByteArray.empty false [] 0 [])).blocks.getD v4.toNat (Block.mk [])).ins.getD v6.toNat (Ins.mk 0 0 0 0 0 [] [])).num (((h0.getD (0) (Func.mk ByteArray.empty false [] 0 [])).blocks.getD v4.toNat (Block.mk [])).ins.getD v6.toNat (Ins.mk 0 0 0 0 0 [] [])).args (((h0.getD (0) (Func.mk ByteArray.empty false [] 0 [])).blocks.getD v4.toNat (Block.mk [])).ins.getD v6.toNat (Ins.mk 0 0 0 0 0 [] [])).into]))
 else none
 else none
 else none
 else none
 else none
 else none
 else
 J k32_j2 (s32_j2 f v4 h0 h1 h1_1 h1_2 h1_3 h1_4 h2 h2_1 h2_2 h2_3 h2_4 h3)
 else none
 else none:=by kernel_rfl
theorem e32_j0 (J f h0 h0_1 h0_2 h0_3 h0_4 h1 h1_1 h1_2 h1_3 h1_4):run tb C32 U32 J (R32 f) 4096 k32_j0 (s32_j0 f h0 h0_1 h0_2 h0_3 h0_4 h1 h1_1 h1_2 h1_3 h1_4)=
 some (.agg [.v (.string h1), .v (.bool h1_1), .sl true 3 h1_2, .v (.int .i64 h1_3), .sl true 44 h1_4],[.dead]):=by kernel_rfl
theorem e32_j2 (J f v4 h0 h1 h1_1 h1_2 h1_3 h1_4 h2 h2_1 h2_2 h2_3 h2_4 h3):run tb C32 U32 J (R32 f) 4096 k32_j2 (s32_j2 f v4 h0 h1 h1_1 h1_2 h1_3 h1_4 h2 h2_1 h2_2 h2_3 h2_4 h3)=
 if h2_4.length+[Block.mk h3].length+1≤549755813888∧(h2_4.length+[Block.mk h3].length+1)*24≤549755813888 then
 J k32_j1 (s32_j1 f v4 h0 h1 h1_1 h1_2 h1_3 h1_4 h2 h2_1 h2_2 h2_3 (h2_4++[Block.mk h3]))
 else none:=by kernel_rfl
theorem e32_j1 (J f v4 h0 h1 h1_1 h1_2 h1_3 h1_4 h2 h2_1 h2_2 h2_3 h2_4):run tb C32 U32 J (R32 f) 4096 k32_j1 (s32_j1 f v4 h0 h1 h1_1 h1_2 h1_3 h1_4 h2 h2_1 h2_2 h2_3 h2_4)=
 J k32_l0 (s32_l0 f (IntKind.i64.wrap (v4+1)) h0 h1 h1_1 h1_2 h1_3 h1_4 h2 h2_1 h2_2 h2_3 h2_4):=by kernel_rfl

theorem in32:Entered 32:=⟨Try.f32,b32,by kernel_rfl,by kernel_rfl,by kernel_rfl⟩
theorem fn32 (f:Ev.Func) {res:AV Ty} {outs:List (AV Ty)} (h:Ends C32 U32 (R32 f) [.code b32] ⟨slotsA (a32 f) 0 0,heapA (a32 f)⟩ (some (res,outs))):CallOk tb Try.prog 32 (a32 f) res outs:=by
 obtain ⟨n0,hn⟩:=h
 exact fn_ok (C:=C32) (U:=U32) (n:=0+n0) (q:= .keep) tbOk good (fun f mu S h=>by
  unfold C32 at h
  simp only at h
  split at h
  ·cases h;exact ⟨in79,S79_ok⟩
  ·cases h) mixed (fn:=Try.f32) (body:=b32) (by kernel_rfl) (by kernel_rfl) rfl rfl (by show 1≤58;omega) (hn 0)
section
variable {f:Ev.Func}
abbrev cpT (f:Ev.Func) (i:Nat):St Ty:=s32_l0 f i [f] ByteArray.empty false [] 0 [] f.name f.out f.params f.result (f.blocks.take i)
abbrev cpU (f:Ev.Func) (i k:Nat):St Ty:=s32_l2 f i k [f] ByteArray.empty false [] 0 [] f.name f.out f.params f.result (f.blocks.take i) ((f.blocks.getD i (Block.mk [])).ins.take k)
theorem CopyR.in (h:okF f) {i:Nat} (hi:i<f.blocks.length) {k:Nat} (hk:k<(f.blocks.getD i (Block.mk [])).ins.length):Goes C32 U32 (R32 f) k32_l2 (cpU f i k) k32_l2 (cpU f i (k+1)):= .step fun J=>by
 have h3:=(h.blk hi).1
 have h4:okIns ((f.blocks.getD i (Block.mk [])).ins.getD k (Ins.mk 0 0 0 0 0 [] [])):=(h.blk hi).2 _ (getD_mem hk)
 have h5:((f.blocks.getD i (Block.mk [])).ins.take k).length≤1000:=by rw [List.length_take];omega
 unfold okIns at h4
 unfold cpU
 rw [e32_l2,take_step (d:=(Ins.mk 0 0 0 0 0 [] [])) hk]
 simp only [Int.toNat_natCast,List.getD_cons_zero]
 simp (disch:=first|omega|assumption|(rw [dT];omega)|(rw [dF];omega)) only [↓iP,↓iN,iT,iF,wrap_up,tN,Nat.zero_add,List.length_singleton]
 rfl
theorem CopyR.out (h:okF f) {i:Nat} (hi:i<f.blocks.length):Goes C32 U32 (R32 f) k32_l0 (cpT f i) k32_l0 (cpT f (i+1)):=by
 have hb:=h.2.1
 refine Goes.trans (k':=k32_l2) (s':=cpU f i 0) (.step fun J=> ?_) ?_
 ·rw [cpT,e32_l0]
  simp only [List.getD_cons_zero]
  simp (disch:=first|omega|assumption|(rw [dT];omega)|(rw [dF];omega)) only [↓iP,↓iN,iT,iF,wrap_up,tN,Nat.zero_add]
  rfl
 refine Goes.trans (Goes.upto (cpU f i) _ (fun k hk=>CopyR.in h hi hk) _ (Nat.le_refl _)) ?_
 refine Goes.trans (k':=k32_j2) (s':=s32_j2 f i [f] ByteArray.empty false [] 0 [] f.name f.out f.params f.result (f.blocks.take i) (f.blocks.getD i (Block.mk [])).ins) (.step fun J=> ?_) (Goes.trans (k':=k32_j1) (s':=s32_j1 f i [f] ByteArray.empty false [] 0 [] f.name f.out f.params f.result (f.blocks.take (i+1))) (.step fun J=> ?_) (.step fun J=> ?_))
 ·rw [cpU,e32_l2]
  simp only [Int.toNat_natCast,List.getD_cons_zero]
  simp (disch:=first|omega|assumption|(rw [dT];omega)|(rw [dF];omega)) only [↓iP,↓iN,iT,iF,wrap_up,tN,Nat.zero_add,List.take_length]
 ·have h5:(f.blocks.take i).length≤1000:=by rw [List.length_take];omega
  rw [e32_j2,take_step (d:=(Block.mk [])) hi]
  simp (disch:=first|omega|assumption|(rw [dT];omega)|(rw [dF];omega)) only [↓iP,↓iN,iT,iF,wrap_up,tN,Nat.zero_add,List.length_singleton]
 ·rw [e32_j1]
  simp (disch:=first|omega|assumption|(rw [dT];omega)|(rw [dF];omega)) only [↓iP,↓iN,iT,iF,wrap_up,tN,Nat.zero_add]
  rfl
end
theorem copyFunc2_ok (f:Ev.Func) (h:okF f):CallOk tb Try.prog 32 (a32 f) (.agg [.v (.string f.name), .v (.bool f.out), .sl true 3 f.params, .v (.int .i64 f.result), .sl true 44 f.blocks]) [.dead]:=by
 have hb:=h.2.1
 have hp:=h.1
 refine fn32 f (Goes.ends (k':=k32_l0) (s':=cpT f 0) (.step fun J=> ?_) ?_)
 ·rw [e32]
  simp (disch:=first|omega|assumption|(rw [dT];omega)|(rw [dF];omega)) only [↓iP,↓iN,iT,iF,wrap_up,tN,Nat.zero_add,meet_self]
  rfl
 refine Goes.ends (Goes.upto (cpT f) f.blocks.length (fun i hi=>CopyR.out h hi) _ (Nat.le_refl _)) ?_
 refine Goes.ends (k':=k32_j0) (s':=s32_j0 f ByteArray.empty false [] 0 [] f.name f.out f.params f.result f.blocks) (.step fun J=> ?_) (.step fun J=>e32_j0 ..)
 rw [cpT,e32_l0]
 simp only [List.getD_cons_zero]
 simp (disch:=first|omega|assumption|(rw [dT];omega)|(rw [dF];omega)) only [↓iP,↓iN,iT,iF,wrap_up,tN,Nat.zero_add,List.take_length]
noncomputable def S32:List (AV Ty)→T (AV Ty×List (AV Ty))
 |[.agg x]=>match cod33.dec false x with
  |some f=> .ite (okF f) (okF.dec f) (.ret (.agg [.v (.string f.name), .v (.bool f.out), .sl true 3 f.params, .v (.int .i64 f.result), .sl true 44 f.blocks],[.dead])) .fail
  |none=> .fail
 |_=> .fail
theorem S32_ok (l:List (AV Ty)) (r:AV Ty) (outs:List (AV Ty)) (h:(S32 l).val=some (r,outs)):CallOk tb Try.prog 32 l r outs:=by
 unfold S32 at h
 split at h
 ·rename_i x
  split at h
  ·rename_i f e1
   rcases ite_val h with ⟨e,h⟩|⟨_,h⟩
   ·cases h
    have h1:=cod33_ok.dec false x f e1
    subst h1
    exact copyFunc2_ok f e
   ·cases h
  ·cases h
 ·cases h
def fineX (x:Ev.Extern):Prop:=x.name.size≤40∧x.params.length≤10
def fineG (x:Ev.Global):Prop:=x.name.size≤40∧x.cells.length≤20
def fineT (x:Ev.Table):Prop:=x.name.size≤40∧x.funcs.length≤16
def szF (l:List Ev.Func):Nat:=(l.map fun f=>szT f.blocks).sum
def smallM (m:Ev.Module):Prop:=(m.externs.length≤14∧m.globals.length≤14∧m.tables.length≤8∧m.funcs.length≤26)∧(∀x,x∈m.externs→fineX x)∧(∀x,x∈m.globals→fineG x)∧(∀x,x∈m.tables→fineT x)∧(∀f,f∈m.funcs→lightF f)∧szF m.funcs≤160
def wideM (m:Ev.Module):Prop:= ∀f,f∈m.funcs→wideF f
instance fineX.dec (x:Ev.Extern):Decidable (fineX x):=by unfold fineX;infer_instance
instance fineG.dec (x:Ev.Global):Decidable (fineG x):=by unfold fineG;infer_instance
instance fineT.dec (x:Ev.Table):Decidable (fineT x):=by unfold fineT;infer_instance
instance smallM.dec (m:Ev.Module):Decidable (smallM m):=by unfold smallM;infer_instance
instance wideM.dec (m:Ev.Module):Decidable (wideM m):=by unfold wideM;infer_instance
theorem szF_step {l:List Ev.Func} {i:Nat} (h:i<l.length):szF (l.take (i+1))=szF (l.take i)+szT (l.getD i (Func.mk ByteArray.empty false [] 0 [])).blocks:=by
 rw [take_step (d:=(Func.mk ByteArray.empty false [] 0 [])) h]
 simp [szF]
theorem szF_le {l:List Ev.Func} (hl:l.length≤1000) (h: ∀f,f∈l→lightF f):szF l≤90000:=by
 have: ∀l:List Ev.Func,(∀f,f∈l→lightF f)→szF l≤l.length*90:=fun l=>by
  induction l with
  |nil=>intro _;simp [szF]
  |cons f l ih=>
   intro h
   have h1:=ih fun x hx=>h x (List.mem_cons_of_mem _ hx)
   have h2:=(h f List.mem_cons_self).2.2.2.1
   simp only [szF,List.map_cons,List.sum_cons,List.length_cons,Nat.succ_mul] at h1⊢
   omega
 have h1:=this l h
 omega
noncomputable def b33:Code:=bodyOf Try.f33
noncomputable def C33:Cfg Ty:=⟨fun
 |25=>some ([],S25)
 |28=>some ([],S28)
 |_=>none,fun _=>false,129,0⟩
def U33:Cuts:=⟨fun
 |0=>some [(1,none)]
 |2=>some [(1,none)]
 |4=>some [(1,none)]
 |6=>some [(6,none)]
 |_=>none,fun
 |0=>some [(1,none),(3,none)]
 |2=>some [(1,none),(4,none)]
 |4=>some [(1,none),(5,none)]
 |6=>some [(1,none),(6,none),(7,none)]
 |_=>none,fun _=>none⟩
noncomputable def k33_j0:List Item:=[.code (sndC (sndC (sndC b33)))]
noncomputable def k33_l0:List Item:=[.code (inC (inC (sndC (fstC (sndC (sndC b33)))))), .inLoop (inC (inC (sndC (fstC (sndC (sndC b33)))))), .inBlock 0, .code (sndC (sndC (sndC b33)))]
noncomputable def k33_j2:List Item:=[.code (sndC (sndC (sndC (sndC b33))))]
noncomputable def k33_l2:List Item:=[.code (inC (inC (sndC (fstC (sndC (sndC (sndC b33))))))), .inLoop (inC (inC (sndC (fstC (sndC (sndC (sndC b33))))))), .inBlock 2, .code (sndC (sndC (sndC (sndC b33))))]
noncomputable def k33_j4:List Item:=[.code (sndC (sndC (sndC (sndC (sndC b33)))))]
noncomputable def k33_l4:List Item:=[.code (inC (inC (sndC (fstC (sndC (sndC (sndC (sndC b33)))))))), .inLoop (inC (inC (sndC (fstC (sndC (sndC (sndC (sndC b33)))))))), .inBlock 4, .code (sndC (sndC (sndC (sndC (sndC b33)))))]
noncomputable def k33_j6:List Item:=[.code (sndC (sndC (sndC (sndC (sndC (sndC (sndC b33)))))))]
noncomputable def k33_l6:List Item:=[.code (inC (inC (sndC (fstC (sndC (sndC (sndC (sndC (sndC (sndC b33)))))))))), .inLoop (inC (inC (sndC (fstC (sndC (sndC (sndC (sndC (sndC (sndC b33)))))))))), .inBlock 6, .code (sndC (sndC (sndC (sndC (sndC (sndC (sndC b33)))))))]
def a33 (m:Module):List (AV Ty):=[.agg [.sl false (91:Nat) m.externs, .sl false (94:Nat) m.globals, .sl false (96:Nat) m.tables, .sl false (33:Nat) m.funcs]]
noncomputable def R33 (m:Module):St Ty→EvR:=resT tb C33 Try.f33.results.toList .keep (a33 m)
def s33_l0 (m:Module) (v3:Int) (h0:List Module):St Ty:=St.mk [(1, .ptr (0) [] (0) (0)),(3, .v (.int .i64 v3))] [some (Root.mk (27) false h0)]
def s33_j0 (m:Module) (h0:List Module):St Ty:=St.mk [(1, .ptr (0) [] (0) (0))] [some (Root.mk (27) false h0)]
def s33_l2 (m:Module) (v4:Int) (h0:List Module):St Ty:=St.mk [(1, .ptr (0) [] (0) (0)),(4, .v (.int .i64 v4))] [some (Root.mk (27) false h0)]
def s33_j2 (m:Module) (h0:List Module):St Ty:=St.mk [(1, .ptr (0) [] (0) (0))] [some (Root.mk (27) false h0)]
def s33_l4 (m:Module) (v5:Int) (h0:List Module):St Ty:=St.mk [(1, .ptr (0) [] (0) (0)),(5, .v (.int .i64 v5))] [some (Root.mk (27) false h0)]
def s33_j4 (m:Module) (h0:List Module):St Ty:=St.mk [(1, .ptr (0) [] (0) (0))] [some (Root.mk (27) false h0)]
def s33_l6 (m:Module) (v6:Int) (v7:Int) (h0:List Module):St Ty:=St.mk [(1, .ptr (0) [] (0) (0)),(6, .v (.int .i64 v6)),(7, .v (.int .i64 v7))] [some (Root.mk (27) false h0)]
def s33_j6 (m:Module) (v6:Int):St Ty:=St.mk [(6, .v (.int .i64 v6))] []
theorem e33 (J m):run tb C33 U33 J (R33 m) 4096 [.code b33] ⟨slotsA (a33 m) 0 0,heapA (a33 m)⟩=
 if decide ((↑m.externs.length:Int)>14)=false then
 if decide ((↑m.globals.length:Int)>14)=false then
 if decide ((↑m.tables.length:Int)>8)=false then
 if decide ((↑m.funcs.length:Int)>26)=true then
 some (.v (.bool false),[.dead])
 else
 J k33_l0 (s33_l0 m 0 ([Module.mk m.externs m.globals m.tables m.funcs]))
 else
 some (.v (.bool false),[.dead])
 else
 some (.v (.bool false),[.dead])
 else
 some (.v (.bool false),[.dead]):=by kernel_rfl
theorem e33_l0 (J m v3 h0):run tb C33 U33 J (R33 m) 4096 k33_l0 (s33_l0 m v3 h0)=
 if decide (v3<(↑(h0.getD (0) (Module.mk [] [] [] [])).externs.length:Int))=true then
 if 0≤v3 then
 if v3<(↑(h0.getD (0) (Module.mk [] [] [] [])).externs.length:Int) then
 if decide ((↑((h0.getD (0) (Module.mk [] [] [] [])).externs.getD v3.toNat (Extern.mk ByteArray.empty [] 0)).name.size:Int)>40)=false then
 if 0≤v3 then
 if v3<(↑(h0.getD (0) (Module.mk [] [] [] [])).externs.length:Int) then
 if decide ((↑((h0.getD (0) (Module.mk [] [] [] [])).externs.getD v3.toNat (Extern.mk ByteArray.empty [] 0)).params.length:Int)>10)=true then
 some (.v (.bool false),[.dead])
 else
 J k33_l0 (s33_l0 m (IntKind.i64.wrap (v3+1)) h0)
 else none
 else none
 else
 some (.v (.bool false),[.dead])
 else none
 else none
 else
 J k33_j0 (s33_j0 m h0):=by kernel_rfl
theorem e33_j0 (J m h0):run tb C33 U33 J (R33 m) 4096 k33_j0 (s33_j0 m h0)=
 J k33_l2 (s33_l2 m 0 h0):=by kernel_rfl
theorem e33_l2 (J m v4 h0):run tb C33 U33 J (R33 m) 4096 k33_l2 (s33_l2 m v4 h0)=
 if decide (v4<(↑(h0.getD (0) (Module.mk [] [] [] [])).globals.length:Int))=true then
 if 0≤v4 then
 if v4<(↑(h0.getD (0) (Module.mk [] [] [] [])).globals.length:Int) then
 if decide ((↑((h0.getD (0) (Module.mk [] [] [] [])).globals.getD v4.toNat (Global.mk ByteArray.empty [])).name.size:Int)>40)=false then
 if 0≤v4 then
 if v4<(↑(h0.getD (0) (Module.mk [] [] [] [])).globals.length:Int) then
 if decide ((↑((h0.getD (0) (Module.mk [] [] [] [])).globals.getD v4.toNat (Global.mk ByteArray.empty [])).cells.length:Int)>20)=true then
 some (.v (.bool false),[.dead])
 else
 J k33_l2 (s33_l2 m (IntKind.i64.wrap (v4+1)) h0)
 else none
 else none
 else
 some (.v (.bool false),[.dead])
 else none
 else none
 else
 J k33_j2 (s33_j2 m h0):=by kernel_rfl
theorem e33_j2 (J m h0):run tb C33 U33 J (R33 m) 4096 k33_j2 (s33_j2 m h0)=
 J k33_l4 (s33_l4 m 0 h0):=by kernel_rfl
theorem e33_l4 (J m v5 h0):run tb C33 U33 J (R33 m) 4096 k33_l4 (s33_l4 m v5 h0)=
 if decide (v5<(↑(h0.getD (0) (Module.mk [] [] [] [])).tables.length:Int))=true then
 if 0≤v5 then
 if v5<(↑(h0.getD (0) (Module.mk [] [] [] [])).tables.length:Int) then
 if decide ((↑((h0.getD (0) (Module.mk [] [] [] [])).tables.getD v5.toNat (Table.mk ByteArray.empty [])).name.size:Int)>40)=false then
 if 0≤v5 then
 if v5<(↑(h0.getD (0) (Module.mk [] [] [] [])).tables.length:Int) then
 if decide ((↑((h0.getD (0) (Module.mk [] [] [] [])).tables.getD v5.toNat (Table.mk ByteArray.empty [])).funcs.length:Int)>16)=true then
 some (.v (.bool false),[.dead])
 else
 J k33_l4 (s33_l4 m (IntKind.i64.wrap (v5+1)) h0)
 else none
 else none
 else
 some (.v (.bool false),[.dead])
 else none
 else none
 else
 J k33_j4 (s33_j4 m h0):=by kernel_rfl
theorem e33_j4 (J m h0):run tb C33 U33 J (R33 m) 4096 k33_j4 (s33_j4 m h0)=
 J k33_l6 (s33_l6 m 0 0 h0):=by kernel_rfl
theorem e33_l6 (J m v6 v7 h0):run tb C33 U33 J (R33 m) 4096 k33_l6 (s33_l6 m v6 v7 h0)=
 if decide (v7<(↑(h0.getD (0) (Module.mk [] [] [] [])).funcs.length:Int))=true then
 if 0≤v7 then
 if v7<(↑(h0.getD (0) (Module.mk [] [] [] [])).funcs.length:Int) then
 if wideF (Func.mk ((h0.getD (0) (Module.mk [] [] [] [])).funcs.getD v7.toNat (Func.mk ByteArray.empty false [] 0 [])).name ((h0.getD (0) (Module.mk [] [] [] [])).funcs.getD v7.toNat (Func.mk ByteArray.empty false [] 0 [])).out ((h0.getD (0) (Module.mk [] [] [] [])).funcs.getD v7.toNat (Func.mk ByteArray.empty false [] 0 [])).params ((h0.getD (0) (Module.mk [] [] [] [])).funcs.getD v7.toNat (Func.mk ByteArray.empty false [] 0 [])).result ((h0.getD (0) (Module.mk [] [] [] [])).funcs.getD v7.toNat (Func.mk ByteArray.empty false [] 0 [])).blocks) then
 if (!lightB (Func.mk ((h0.getD (0) (Module.mk [] [] [] [])).funcs.getD v7.toNat (Func.mk ByteArray.empty false [] 0 [])).name ((h0.getD (0) (Module.mk [] [] [] [])).funcs.getD v7.toNat (Func.mk ByteArray.empty false [] 0 [])).out ((h0.getD (0) (Module.mk [] [] [] [])).funcs.getD v7.toNat (Func.mk ByteArray.empty false [] 0 [])).params ((h0.getD (0) (Module.mk [] [] [] [])).funcs.getD v7.toNat (Func.mk ByteArray.empty false [] 0 [])).result ((h0.getD (0) (Module.mk [] [] [] [])).funcs.getD v7.toNat (Func.mk ByteArray.empty false [] 0 [])).blocks))=true then
 some (.v (.bool false),[.dead])
 else
 if 0≤v7 then
 if v7<(↑(h0.getD (0) (Module.mk [] [] [] [])).funcs.length:Int) then
 if okF (Func.mk ((h0.getD (0) (Module.mk [] [] [] [])).funcs.getD v7.toNat (Func.mk ByteArray.empty false [] 0 [])).name ((h0.getD (0) (Module.mk [] [] [] [])).funcs.getD v7.toNat (Func.mk ByteArray.empty false [] 0 [])).out ((h0.getD (0) (Module.mk [] [] [] [])).funcs.getD v7.toNat (Func.mk ByteArray.empty false [] 0 [])).params ((h0.getD (0) (Module.mk [] [] [] [])).funcs.getD v7.toNat (Func.mk ByteArray.empty false [] 0 [])).result ((h0.getD (0) (Module.mk [] [] [] [])).funcs.getD v7.toNat (Func.mk ByteArray.empty false [] 0 [])).blocks) then
 J k33_l6 (s33_l6 m (IntKind.i64.wrap (v6+(↑(szT ((h0.getD (0) (Module.mk [] [] [] [])).funcs.getD v7.toNat (Func.mk ByteArray.empty false [] 0 [])).blocks):Int))) (IntKind.i64.wrap (v7+1)) h0)
 else none
 else none
 else none
 else none
 else none
 else none
 else
 J k33_j6 (s33_j6 m v6):=by kernel_rfl
theorem e33_j6 (J m v6):run tb C33 U33 J (R33 m) 4096 k33_j6 (s33_j6 m v6)=
 some (.v (.bool (decide (v6≤160))),[.dead]):=by kernel_rfl

theorem in33:Entered 33:=⟨Try.f33,b33,by kernel_rfl,by kernel_rfl,by kernel_rfl⟩
theorem fn33 (m:Ev.Module) {res:AV Ty} {outs:List (AV Ty)} (h:Ends C33 U33 (R33 m) [.code b33] ⟨slotsA (a33 m) 0 0,heapA (a33 m)⟩ (some (res,outs))):CallOk tb Try.prog 33 (a33 m) res outs:=by
 obtain ⟨n0,hn⟩:=h
 exact fn_ok (C:=C33) (U:=U33) (n:=0+n0) (q:= .keep) tbOk good (fun f mu S h=>by
  unfold C33 at h
  simp only at h
  split at h
  ·cases h;exact ⟨in25,S25_ok⟩
  ·cases h;exact ⟨in28,S28_ok⟩
  ·cases h) mixed (fn:=Try.f33) (body:=b33) (by kernel_rfl) (by kernel_rfl) rfl rfl (by show 1≤129;omega) (hn 0)
section
variable {m:Ev.Module}
theorem Small.x {i:Nat} (hi:i<m.externs.length) (hl:m.externs.length≤14) (h:fineX (m.externs.getD i (Extern.mk ByteArray.empty [] 0))):Goes C33 U33 (R33 m) k33_l0 (s33_l0 m i [m]) k33_l0 (s33_l0 m (i+1:Nat) [m]):= .step fun J=>by
 obtain ⟨h1,h2⟩:=h
 rw [e33_l0]
 simp only [Int.toNat_natCast,List.getD_cons_zero]
 simp (disch:=first|omega|assumption|(rw [dT];omega)|(rw [dF];omega)) only [↓iP,↓iN,iT,iF,wrap_up,tN,Nat.zero_add]
 rfl
theorem Small.x0 {i:Nat} (hi:i<m.externs.length) (hl:m.externs.length≤14) (h: ¬fineX (m.externs.getD i (Extern.mk ByteArray.empty [] 0))):Ends C33 U33 (R33 m) k33_l0 (s33_l0 m i [m]) (some (.v (.bool false),[.dead])):= .step fun J=>by
 rw [e33_l0]
 simp only [Int.toNat_natCast,List.getD_cons_zero]
 by_cases h1:(m.externs.getD i (Extern.mk ByteArray.empty [] 0)).name.size≤40
 ·have h2: ¬(m.externs.getD i (Extern.mk ByteArray.empty [] 0)).params.length≤10:=fun e=>h ⟨h1,e⟩
  simp (disch:=first|omega|assumption|(rw [dT];omega)|(rw [dF];omega)) only [↓iP,↓iN,iT,iF,wrap_up,tN,Nat.zero_add]
 ·simp (disch:=first|omega|assumption|(rw [dT];omega)|(rw [dF];omega)) only [↓iP,↓iN,iT,iF,wrap_up,tN,Nat.zero_add]
theorem Small.g {i:Nat} (hi:i<m.globals.length) (hl:m.globals.length≤14) (h:fineG (m.globals.getD i (Global.mk ByteArray.empty []))):Goes C33 U33 (R33 m) k33_l2 (s33_l2 m i [m]) k33_l2 (s33_l2 m (i+1:Nat) [m]):= .step fun J=>by
 obtain ⟨h1,h2⟩:=h
 rw [e33_l2]
 simp only [Int.toNat_natCast,List.getD_cons_zero]
 simp (disch:=first|omega|assumption|(rw [dT];omega)|(rw [dF];omega)) only [↓iP,↓iN,iT,iF,wrap_up,tN,Nat.zero_add]
 rfl
theorem Small.g0 {i:Nat} (hi:i<m.globals.length) (hl:m.globals.length≤14) (h: ¬fineG (m.globals.getD i (Global.mk ByteArray.empty []))):Ends C33 U33 (R33 m) k33_l2 (s33_l2 m i [m]) (some (.v (.bool false),[.dead])):= .step fun J=>by
 rw [e33_l2]
 simp only [Int.toNat_natCast,List.getD_cons_zero]
 by_cases h1:(m.globals.getD i (Global.mk ByteArray.empty [])).name.size≤40
 ·have h2: ¬(m.globals.getD i (Global.mk ByteArray.empty [])).cells.length≤20:=fun e=>h ⟨h1,e⟩
  simp (disch:=first|omega|assumption|(rw [dT];omega)|(rw [dF];omega)) only [↓iP,↓iN,iT,iF,wrap_up,tN,Nat.zero_add]
 ·simp (disch:=first|omega|assumption|(rw [dT];omega)|(rw [dF];omega)) only [↓iP,↓iN,iT,iF,wrap_up,tN,Nat.zero_add]
theorem Small.t {i:Nat} (hi:i<m.tables.length) (hl:m.tables.length≤8) (h:fineT (m.tables.getD i (Table.mk ByteArray.empty []))):Goes C33 U33 (R33 m) k33_l4 (s33_l4 m i [m]) k33_l4 (s33_l4 m (i+1:Nat) [m]):= .step fun J=>by
 obtain ⟨h1,h2⟩:=h
 rw [e33_l4]
 simp only [Int.toNat_natCast,List.getD_cons_zero]
 simp (disch:=first|omega|assumption|(rw [dT];omega)|(rw [dF];omega)) only [↓iP,↓iN,iT,iF,wrap_up,tN,Nat.zero_add]
 rfl
theorem Small.t0 {i:Nat} (hi:i<m.tables.length) (hl:m.tables.length≤8) (h: ¬fineT (m.tables.getD i (Table.mk ByteArray.empty []))):Ends C33 U33 (R33 m) k33_l4 (s33_l4 m i [m]) (some (.v (.bool false),[.dead])):= .step fun J=>by
 rw [e33_l4]
 simp only [Int.toNat_natCast,List.getD_cons_zero]
 by_cases h1:(m.tables.getD i (Table.mk ByteArray.empty [])).name.size≤40
 ·have h2: ¬(m.tables.getD i (Table.mk ByteArray.empty [])).funcs.length≤16:=fun e=>h ⟨h1,e⟩
  simp (disch:=first|omega|assumption|(rw [dT];omega)|(rw [dF];omega)) only [↓iP,↓iN,iT,iF,wrap_up,tN,Nat.zero_add]
 ·simp (disch:=first|omega|assumption|(rw [dT];omega)|(rw [dF];omega)) only [↓iP,↓iN,iT,iF,wrap_up,tN,Nat.zero_add]
theorem Small.f {i n:Nat} (hi:i<m.funcs.length) (hl:m.funcs.length≤26) (hw:wideM m) (hn:n≤1000000) (h:lightF (m.funcs.getD i (Func.mk ByteArray.empty false [] 0 []))):Goes C33 U33 (R33 m) k33_l6 (s33_l6 m n i [m]) k33_l6 (s33_l6 m (n+szT (m.funcs.getD i (Func.mk ByteArray.empty false [] 0 [])).blocks:Nat) (i+1:Nat) [m]):= .step fun J=>by
 have e:(Func.mk (m.funcs.getD i (Func.mk ByteArray.empty false [] 0 [])).name (m.funcs.getD i (Func.mk ByteArray.empty false [] 0 [])).out (m.funcs.getD i (Func.mk ByteArray.empty false [] 0 [])).params (m.funcs.getD i (Func.mk ByteArray.empty false [] 0 [])).result (m.funcs.getD i (Func.mk ByteArray.empty false [] 0 [])).blocks)=m.funcs.getD i (Func.mk ByteArray.empty false [] 0 []):=rfl
 have b1:lightB (m.funcs.getD i (Func.mk ByteArray.empty false [] 0 []))=true:=decide_eq_true h
 have h2:=h.ok
 have h3:=hw _ (getD_mem (d:=(Func.mk ByteArray.empty false [] 0 [])) hi)
 have h4:=h.2.2.2.1
 have w:IntKind.i64.wrap ((n:Int)+szT (m.funcs.getD i (Func.mk ByteArray.empty false [] 0 [])).blocks)=((n+szT (m.funcs.getD i (Func.mk ByteArray.empty false [] 0 [])).blocks:Nat):Int):=wrap_nat (by omega) (by omega)
 rw [e33_l6]
 simp only [Int.toNat_natCast,List.getD_cons_zero]
 rw [e,b1,w]
 simp (disch:=first|omega|assumption|(rw [dT];omega)|(rw [dF];omega)) only [↓iP,↓iN,iT,iF,wrap_up,tN,Nat.zero_add,Bool.not_true,Bool.false_eq_true]
 rfl
theorem Small.f0 {i n:Nat} (hi:i<m.funcs.length) (hl:m.funcs.length≤26) (hw:wideM m) (h: ¬lightF (m.funcs.getD i (Func.mk ByteArray.empty false [] 0 []))):Ends C33 U33 (R33 m) k33_l6 (s33_l6 m n i [m]) (some (.v (.bool false),[.dead])):= .step fun J=>by
 have e:(Func.mk (m.funcs.getD i (Func.mk ByteArray.empty false [] 0 [])).name (m.funcs.getD i (Func.mk ByteArray.empty false [] 0 [])).out (m.funcs.getD i (Func.mk ByteArray.empty false [] 0 [])).params (m.funcs.getD i (Func.mk ByteArray.empty false [] 0 [])).result (m.funcs.getD i (Func.mk ByteArray.empty false [] 0 [])).blocks)=m.funcs.getD i (Func.mk ByteArray.empty false [] 0 []):=rfl
 have b1:lightB (m.funcs.getD i (Func.mk ByteArray.empty false [] 0 []))=false:=decide_eq_false h
 have h3:=hw _ (getD_mem (d:=(Func.mk ByteArray.empty false [] 0 [])) hi)
 rw [e33_l6]
 simp only [Int.toNat_natCast,List.getD_cons_zero]
 rw [e,b1]
 simp (disch:=first|omega|assumption|(rw [dT];omega)|(rw [dF];omega)) only [↓iP,↓iN,iT,iF,wrap_up,tN,Nat.zero_add,Bool.not_false]
end
def smallB (m:Ev.Module):Bool:=decide (smallM m)
theorem small_ok (m:Ev.Module) (hw:wideM m):CallOk tb Try.prog 33 (a33 m) (.v (.bool (smallB m))) [.dead]:=by
 refine fn33 m ?_
 have no: ¬smallM m→(some (.v (.bool (smallB m)),[.dead]):EvR)=some (.v (.bool false),[.dead]):=fun h=>by
  rw [show smallB m=false from decide_eq_false h]
 by_cases hsz:m.externs.length≤14∧m.globals.length≤14∧m.tables.length≤8∧m.funcs.length≤26
 ·obtain ⟨h1,h2,h3,h4⟩:=hsz
  refine Goes.ends (k':=k33_l0) (s':=s33_l0 m (0:Nat) [m]) (.step fun J=> ?_) ?_
  ·rw [e33]
   simp (disch:=first|omega|assumption|(rw [dT];omega)|(rw [dF];omega)) only [↓iP,↓iN,iT,iF,wrap_up,tN,Nat.zero_add]
   rfl
  refine Ends.all (rF:=some (.v (.bool false),[.dead])) (fun i=>s33_l0 m i [m]) m.externs.length (fun i=>fineX (m.externs.getD i (Extern.mk ByteArray.empty [] 0))) (fun i hi hp=>Small.x hi h1 hp) (fun i hi hp=>Small.x0 hi h1 hp) (fun hx=> ?_) (fun hx=>no fun e=>hx (all_getD.2 e.2.1))
  refine Goes.ends (k':=k33_j0) (s':=s33_j0 m [m]) (.step fun J=> ?_) (Goes.ends (.step fun J=>e33_j0 ..) ?_)
  ·rw [e33_l0]
   simp only [List.getD_cons_zero]
   simp (disch:=first|omega|assumption|(rw [dT];omega)|(rw [dF];omega)) only [↓iP,↓iN,iT,iF,wrap_up,tN,Nat.zero_add]
  refine Ends.all (rF:=some (.v (.bool false),[.dead])) (fun i=>s33_l2 m i [m]) m.globals.length (fun i=>fineG (m.globals.getD i (Global.mk ByteArray.empty []))) (fun i hi hp=>Small.g hi h2 hp) (fun i hi hp=>Small.g0 hi h2 hp) (fun hg=> ?_) (fun hx=>no fun e=>hx (all_getD.2 e.2.2.1))
  refine Goes.ends (k':=k33_j2) (s':=s33_j2 m [m]) (.step fun J=> ?_) (Goes.ends (.step fun J=>e33_j2 ..) ?_)
  ·rw [e33_l2]
   simp only [List.getD_cons_zero]
   simp (disch:=first|omega|assumption|(rw [dT];omega)|(rw [dF];omega)) only [↓iP,↓iN,iT,iF,wrap_up,tN,Nat.zero_add]
  refine Ends.all (rF:=some (.v (.bool false),[.dead])) (fun i=>s33_l4 m i [m]) m.tables.length (fun i=>fineT (m.tables.getD i (Table.mk ByteArray.empty []))) (fun i hi hp=>Small.t hi h3 hp) (fun i hi hp=>Small.t0 hi h3 hp) (fun ht=> ?_) (fun hx=>no fun e=>hx (all_getD.2 e.2.2.2.1))
  refine Goes.ends (k':=k33_j4) (s':=s33_j4 m [m]) (.step fun J=> ?_) (Goes.ends (.step fun J=>e33_j4 ..) ?_)
  ·rw [e33_l4]
   simp only [List.getD_cons_zero]
   simp (disch:=first|omega|assumption|(rw [dT];omega)|(rw [dF];omega)) only [↓iP,↓iN,iT,iF,wrap_up,tN,Nat.zero_add]
  have key: ∀(q i:Nat),i+q=m.funcs.length→(∀f,f∈m.funcs.take i→lightF f)→Ends C33 U33 (R33 m) k33_l6 (s33_l6 m (szF (m.funcs.take i)) i [m]) (some (.v (.bool (smallB m)),[.dead])):=by
   intro q
   induction q with
   |zero=>
    intro i hi hf
    have e:i=m.funcs.length:=by omega
    refine Goes.ends (k':=k33_j6) (s':=s33_j6 m (szF m.funcs)) (.step fun J=> ?_) (.step fun J=> ?_)
    ·rw [e33_l6]
     simp only [List.getD_cons_zero]
     subst e
     simp (disch:=first|omega|assumption|(rw [dT];omega)|(rw [dF];omega)) only [↓iP,↓iN,iT,iF,wrap_up,tN,Nat.zero_add,List.take_length]
    ·rw [e33_j6]
     subst e
     rw [List.take_length] at hf
     rw [show smallB m=decide ((szF m.funcs:Int)≤160) from decide_eq_decide.2 ⟨fun h=>by have:=h.2.2.2.2.2;omega,fun h=>⟨⟨h1,h2,h3,h4⟩,all_getD.1 hx,all_getD.1 hg,all_getD.1 ht,hf,by omega⟩⟩]
   |succ q ih=>
    intro i hi hf
    have hi':i<m.funcs.length:=by omega
    have hs:szF (m.funcs.take i)≤90000:=szF_le (by rw [List.length_take];omega) hf
    by_cases hp:lightF (m.funcs.getD i (Func.mk ByteArray.empty false [] 0 []))
    ·refine (Small.f hi' h4 hw (by omega) hp).ends ?_
     rw [←szF_step hi']
     refine ih (i+1) (by omega) fun f hm=> ?_
     rw [take_step (d:=(Func.mk ByteArray.empty false [] 0 [])) hi'] at hm
     rcases List.mem_append.1 hm with hm|hm
     ·exact hf f hm
     ·rw [List.mem_singleton] at hm;subst hm;exact hp
    ·rw [no fun e=>hp (e.2.2.2.2.1 _ (getD_mem hi'))]
     exact Small.f0 hi' h4 hw hp
  exact key m.funcs.length 0 (by omega) (fun f hm=>by simp at hm)
 ·rw [no fun e=>hsz e.1]
  refine .step fun J=> ?_
  rw [e33]
  by_cases h1:m.externs.length≤14
  ·by_cases h2:m.globals.length≤14
   ·by_cases h3:m.tables.length≤8
    ·have h4: ¬m.funcs.length≤26:=fun h4=>hsz ⟨h1,h2,h3,h4⟩
     simp (disch:=first|omega|assumption|(rw [dT];omega)|(rw [dF];omega)) only [↓iP,↓iN,iT,iF,wrap_up,tN,Nat.zero_add]
    ·simp (disch:=first|omega|assumption|(rw [dT];omega)|(rw [dF];omega)) only [↓iP,↓iN,iT,iF,wrap_up,tN,Nat.zero_add]
   ·simp (disch:=first|omega|assumption|(rw [dT];omega)|(rw [dF];omega)) only [↓iP,↓iN,iT,iF,wrap_up,tN,Nat.zero_add]
  ·simp (disch:=first|omega|assumption|(rw [dT];omega)|(rw [dF];omega)) only [↓iP,↓iN,iT,iF,wrap_up,tN,Nat.zero_add]
def S33:List (AV Ty)→T (AV Ty×List (AV Ty))
 |[.agg x]=>match cod27.dec false x with
  |some m=> .ite (wideM m) (wideM.dec m) (.ret (.v (.bool (smallB m)),[.dead])) .fail
  |none=> .fail
 |_=> .fail
theorem S33_ok (l:List (AV Ty)) (r:AV Ty) (outs:List (AV Ty)) (h:(S33 l).val=some (r,outs)):CallOk tb Try.prog 33 l r outs:=by
 unfold S33 at h
 split at h
 ·rename_i x
  split at h
  ·rename_i m e1
   rcases ite_val h with ⟨e,h⟩|⟨_,h⟩
   ·cases h
    have h1:=cod27_ok.dec false x m e1
    subst h1
    exact small_ok m e
   ·cases h
  ·cases h
 ·cases h
end Go.Proofs.Ytggibjbcbicpjaa.Ev
namespace Go.Proofs.Ytggibjbcbicpjaa.Ev
open Go
set_option linter.unusedVariables false
set_option linter.unusedSimpArgs false
section
variable {C:Cfg Ty} {U:Cuts} {Rt:St Ty→EvR} {k k' k'':List Item} {s s' s'':St Ty} {r rF:EvR} {Q Q':Prop} {rr:Bool→EvR}
def Way (C:Cfg Ty) (U:Cuts) (Rt:St Ty→EvR) (rF:EvR) (k:List Item) (s:St Ty) (k':List Item) (s':St Ty) (Q:Prop):Prop:=Ends C U Rt k s rF∨(Q∧Goes C U Rt k s k' s')
theorem Way.go (q:Q) (h:Goes C U Rt k s k' s'):Way C U Rt rF k s k' s' Q:= .inr ⟨q,h⟩
theorem Way.trans (h:Way C U Rt rF k s k' s' Q) (g:Q→Way C U Rt rF k' s' k'' s'' Q'):Way C U Rt rF k s k'' s'' (Q∧Q'):=by
 rcases h with h|⟨q,h⟩
 ·exact .inl h
 ·rcases g q with g|⟨q',g⟩
  ·exact .inl (h.ends g)
  ·exact .inr ⟨⟨q,q'⟩,h.trans g⟩
theorem Way.mono (h:Way C U Rt rF k s k' s' Q) (g:Q→Q'):Way C U Rt rF k s k' s' Q':=h.imp id fun ⟨q,h⟩=>⟨g q,h⟩
theorem Goes.way (h:Goes C U Rt k s k' s') (g:Way C U Rt rF k' s' k'' s'' Q):Way C U Rt rF k s k'' s'' Q:=by
 rcases g with g|⟨q,g⟩
 ·exact .inl (h.ends g)
 ·exact .inr ⟨q,h.trans g⟩
theorem Way.then (h:Way C U Rt rF k s k' s' Q) (g:Q→Goes C U Rt k' s' k'' s''):Way C U Rt rF k s k'' s'' Q:=by
 rcases h with h|⟨q,h⟩
 ·exact .inl h
 ·exact .inr ⟨q,h.trans (g q)⟩
theorem Way.upto (st:Nat→St Ty) (N:Nat) (P:Nat→Prop) (h: ∀i,i<N→(∀j,j<i→P j)→Way C U Rt rF k (st i) k (st (i+1)) (P i)): ∀i,i≤N→Way C U Rt rF k (st 0) k (st i) (∀j,j<i→P j)
 |0,_=> .inr ⟨fun j hj=>absurd hj (Nat.not_lt_zero _), .refl⟩
 |i+1,hi=>by
  rcases Way.upto st N P h i (by omega) with g|⟨q,g⟩
  ·exact .inl g
  ·rcases h i (by omega) q with g'|⟨q',g'⟩
   ·exact .inl (g.ends g')
   ·refine .inr ⟨fun j hj=> ?_,g.trans g'⟩
    rcases Nat.eq_or_lt_of_le (Nat.le_of_lt_succ hj) with e|e
    ·subst e;exact q'
    ·exact q j e
def Says (C:Cfg Ty) (U:Cuts) (Rt:St Ty→EvR) (rr:Bool→EvR) (k:List Item) (s:St Ty) (Q:Prop):Prop:= ∃b,Ends C U Rt k s (rr b)∧(b=true→Q)
theorem Says.no (h:Ends C U Rt k s (rr false)):Says C U Rt rr k s Q:=⟨false,h,fun h=>by cases h⟩
theorem Says.yes (h:Ends C U Rt k s (rr true)) (q:Q):Says C U Rt rr k s Q:=⟨true,h,fun _=>q⟩
theorem Way.says (h:Way C U Rt (rr false) k s k' s' Q) (g:Q→Says C U Rt rr k' s' Q'):Says C U Rt rr k s (Q∧Q'):=by
 rcases h with h|⟨q,h⟩
 ·exact .no h
 ·obtain ⟨b,g1,g2⟩:=g q
  exact ⟨b,h.ends g1,fun hb=>⟨q,g2 hb⟩⟩
theorem Says.mono (h:Says C U Rt rr k s Q) (g:Q→Q'):Says C U Rt rr k s Q':=by
 obtain ⟨b,h1,h2⟩:=h
 exact ⟨b,h1,fun hb=>g (h2 hb)⟩
theorem Goes.says (h:Goes C U Rt k s k' s') (g:Says C U Rt rr k' s' Q):Says C U Rt rr k s Q:=by
 obtain ⟨b,h1,h2⟩:=g
 exact ⟨b,h.ends h1,h2⟩
end
abbrev Jt:=List Item→St Ty→EvR
section
variable {C:Cfg Ty} {U:Cuts} {Rt:St Ty→EvR} {k k' k'':List Item} {s s' s'':St Ty} {r rF:EvR} {Q Q':Prop} {rr:Bool→EvR} {F A B:Jt→EvR} {Z:(Jt→EvR)→Prop}
theorem tree_ite {c:Prop} {i:Decidable c} (ha:c→Z A) (hb: ¬c→Z B):Z (fun J=> @ite _ c i (A J) (B J)):=by
 by_cases h:c
 ·have:(fun J=> @ite _ c i (A J) (B J))=A:=funext fun J=>if_pos h
  rw [this];exact ha h
 ·have:(fun J=> @ite _ c i (A J) (B J))=B:=funext fun J=>if_neg h
  rw [this];exact hb h
theorem tree_dt {c:Prop} {j:Decidable c} {i:Decidable (decide c=true)} (ha:c→Z A) (hb: ¬c→Z B):Z (fun J=> @ite _ (decide c=true) i (A J) (B J)):=
 tree_ite (fun h=>ha (of_decide_eq_true h)) (fun h=>hb fun e=>h (decide_eq_true e))
theorem tree_df {c:Prop} {j:Decidable c} {i:Decidable (decide c=false)} (ha: ¬c→Z A) (hb:c→Z B):Z (fun J=> @ite _ (decide c=false) i (A J) (B J)):=
 tree_ite (fun h=>ha (of_decide_eq_false h)) (fun h=>hb (Classical.byContradiction fun e=>h (decide_eq_false e)))
theorem tree_et {x y:Int} {i:Decidable ((x == y)=true)} (ha:x=y→Z A) (hb:x≠y→Z B):Z (fun J=> @ite _ ((x == y)=true) i (A J) (B J)):=
 tree_ite (fun h=>ha (beq_iff_eq.1 h)) (fun h=>hb fun e=>h (beq_iff_eq.2 e))
theorem tree_ef {x y:Int} {i:Decidable ((x == y)=false)} (ha:x≠y→Z A) (hb:x=y→Z B):Z (fun J=> @ite _ ((x == y)=false) i (A J) (B J)):=
 tree_ite (fun h=>ha fun e=>by rw [beq_iff_eq.2 e] at h;cases h) (fun h=>hb (Classical.byContradiction fun e=>h (beq_eq_false_iff_ne.2 e)))
theorem tree_qt {x y:Int} {i:Decidable ((x != y)=true)} (ha:x≠y→Z A) (hb:x=y→Z B):Z (fun J=> @ite _ ((x != y)=true) i (A J) (B J)):=
 tree_ite (fun h=>ha (by simpa using h)) (fun h=>hb (by simpa using h))
theorem tree_qf {x y:Int} {i:Decidable ((x != y)=false)} (ha:x=y→Z A) (hb:x≠y→Z B):Z (fun J=> @ite _ ((x != y)=false) i (A J) (B J)):=
 tree_ite (fun h=>ha (by simpa using h)) (fun h=>hb (by simpa using h))
theorem tree_bt {b:Bool} {i:Decidable (b=true)} (ha:b=true→Z A) (hb:b=false→Z B):Z (fun J=> @ite _ (b=true) i (A J) (B J)):=
 tree_ite ha (fun h=>hb (by cases b<;>simp_all))
theorem tree_bf {b:Bool} {i:Decidable (b=false)} (ha:b=false→Z A) (hb:b=true→Z B):Z (fun J=> @ite _ (b=false) i (A J) (B J)):=
 tree_ite ha (fun h=>hb (by cases b<;>simp_all))
theorem tree_nt {b:Bool} {i:Decidable ((!b)=true)} (ha:b=false→Z A) (hb:b=true→Z B):Z (fun J=> @ite _ ((!b)=true) i (A J) (B J)):=
 tree_ite (fun h=>ha (by cases b<;>simp_all)) (fun h=>hb (by cases b<;>simp_all))
theorem tree_nf {b:Bool} {i:Decidable ((!b)=false)} (ha:b=true→Z A) (hb:b=false→Z B):Z (fun J=> @ite _ ((!b)=false) i (A J) (B J)):=
 tree_ite (fun h=>ha (by cases b<;>simp_all)) (fun h=>hb (by cases b<;>simp_all))
def WayT (rF:EvR) (k':List Item) (s':St Ty) (Q:Prop) (F:Jt→EvR):Prop:=(∀J,F J=rF)∨(Q∧ ∀J,F J=J k' s')
theorem Way.of (h: ∀J:Jt,run tb C U J Rt 4096 k s=F J) (g:WayT rF k' s' Q F):Way C U Rt rF k s k' s' Q:=by
 rcases g with g|⟨q,g⟩
 ·exact .inl (.step fun J=>(h J).trans (g J))
 ·exact .inr ⟨q, .step fun J=>(h J).trans (g J)⟩
theorem WayT.no (h: ∀J,F J=rF):WayT rF k' s' Q F:= .inl h
theorem WayT.yes (h: ∀J,F J=J k' s') (q:Q):WayT rF k' s' Q F:= .inr ⟨q,h⟩
def SaysF (C:Cfg Ty) (U:Cuts) (Rt:St Ty→EvR) (rr:Bool→EvR) (Q:Prop) (F:Jt→EvR):Prop:=(∃b,(∀J,F J=rr b)∧(b=true→Q))∨ ∃k' s',(∀J,F J=J k' s')∧Says C U Rt rr k' s' Q
theorem Says.of (h: ∀J:Jt,run tb C U J Rt 4096 k s=F J) (g:SaysF C U Rt rr Q F):Says C U Rt rr k s Q:=by
 rcases g with ⟨b,g1,g2⟩|⟨k',s',g1,b,g2,g3⟩
 ·exact ⟨b, .step fun J=>(h J).trans (g1 J),g2⟩
 ·exact ⟨b,(Goes.step fun J=>(h J).trans (g1 J)).ends g2,g3⟩
theorem SaysF.no (h: ∀J,F J=rr false):SaysF C U Rt rr Q F:= .inl ⟨false,h,fun h=>by cases h⟩
theorem SaysF.yes (h: ∀J,F J=rr true) (q:Q):SaysF C U Rt rr Q F:= .inl ⟨true,h,fun _=>q⟩
theorem SaysF.dec {c:Prop} {i:Decidable c} (h: ∀J,F J=rr (decide c)) (q:c→Q):SaysF C U Rt rr Q F:= .inl ⟨_,h,fun e=>q (of_decide_eq_true e)⟩
theorem SaysF.go (h: ∀J,F J=J k' s') (g:Says C U Rt rr k' s' Q):SaysF C U Rt rr Q F:= .inr ⟨k',s',h,g⟩
end
theorem mem_getD {α:Type} {l:List α} {x:α} (d:α) (h:x∈l): ∃i,i<l.length∧l.getD i d=x:=by
 obtain ⟨i,hi,e⟩:=List.getElem_of_mem h
 exact ⟨i,hi,by simp [List.getD,hi,e]⟩
noncomputable def b47:Code:=bodyOf Try.f47
def C47:Cfg Ty:=⟨fun _=>none,fun _=>false,18,0⟩
def U47:Cuts:=⟨fun
 |0=>some []
 |_=>none,fun
 |0=>some [(0,none),(1,none),(5,none)]
 |_=>none,fun _=>none⟩
noncomputable def k47_j0:List Item:=[.code (sndC (sndC b47))]
noncomputable def k47_l0:List Item:=[.code (inC (inC (sndC (fstC (sndC b47))))), .inLoop (inC (inC (sndC (fstC (sndC b47))))), .inBlock 0, .code (sndC (sndC b47))]
def a47 (l:List Int) (x:Int):List (AV Ty):=[.sl false (3:Nat) l, .v (.int .i64 x)]
noncomputable def R47 (l:List Int) (x:Int):St Ty→EvR:=resT tb C47 Try.f47.results.toList .keep (a47 l x)
def s47_l0 (l:List Int) (x:Int) (v5:Int):St Ty:=St.mk [(0, .sl false (3) l),(1, .v (.int .i64 x)),(5, .v (.int .i64 v5))] []
def s47_j0 (l:List Int) (x:Int):St Ty:=St.mk [] []
theorem e47 (J l x):run tb C47 U47 J (R47 l x) 4096 [.code b47] ⟨slotsA (a47 l x) 0 0,heapA (a47 l x)⟩=
 J k47_l0 (s47_l0 l x 0):=by kernel_rfl
theorem e47_l0 (J l x v5):run tb C47 U47 J (R47 l x) 4096 k47_l0 (s47_l0 l x v5)=
 if decide (v5<(↑l.length:Int))=true then
 if 0≤v5 then
 if v5<(↑l.length:Int) then
 if (l.getD v5.toNat 0 == x)=true then
 some (.v (.bool true),[.dead, .dead])
 else
 J k47_l0 (s47_l0 l x (IntKind.i64.wrap (v5+1)))
 else none
 else none
 else
 J k47_j0 (s47_j0 l x):=by kernel_rfl
theorem e47_j0 (J l x):run tb C47 U47 J (R47 l x) 4096 k47_j0 (s47_j0 l x)=
 some (.v (.bool false),[.dead, .dead]):=by kernel_rfl

theorem in47:Entered 47:=⟨Try.f47,b47,by kernel_rfl,by kernel_rfl,by kernel_rfl⟩
theorem fn47 (l:List Int) (x:Int) {res:AV Ty} {outs:List (AV Ty)} (h:Ends C47 U47 (R47 l x) [.code b47] ⟨slotsA (a47 l x) 0 0,heapA (a47 l x)⟩ (some (res,outs))):CallOk tb Try.prog 47 (a47 l x) res outs:=by
 obtain ⟨n0,hn⟩:=h
 exact fn_ok (C:=C47) (U:=U47) (n:=0+n0) (q:= .keep) tbOk good (fun f mu S h=>by cases h) mixed (fn:=Try.f47) (body:=b47) (by kernel_rfl) (by kernel_rfl) rfl rfl (by show 2≤18;omega) (hn 0)
section
variable {l:List Int} {x:Int}
theorem In.step (hb:l.length≤4611686018427387904) {i:Nat} (h:i<l.length) (hx:l.getD i 0≠x):Goes C47 U47 (R47 l x) k47_l0 (s47_l0 l x i) k47_l0 (s47_l0 l x (i+1:Nat)):= .step fun J=>by
 rw [e47_l0]
 simp (disch:=first|omega|assumption|(rw [dT];omega)|(rw [dF];omega)) only [↓iP,↓iN,iT,iF,wrap_up,tN,Nat.zero_add,beq_iff_eq,hx]
 rfl
theorem In.hit (hb:l.length≤4611686018427387904) {i:Nat} (h:i<l.length) (hx:l.getD i 0=x):Ends C47 U47 (R47 l x) k47_l0 (s47_l0 l x i) (some (.v (.bool true),[.dead, .dead])):= .step fun J=>by
 rw [e47_l0]
 simp (disch:=first|omega|assumption|(rw [dT];omega)|(rw [dF];omega)) only [↓iP,↓iN,iT,iF,wrap_up,tN,Nat.zero_add,beq_iff_eq,hx]
theorem In.out:Ends C47 U47 (R47 l x) k47_l0 (s47_l0 l x l.length) (some (.v (.bool false),[.dead, .dead])):=by
 refine Goes.ends (.step fun J=> ?_) (.step fun J=>e47_j0 J l x)
 rw [e47_l0]
 simp (disch:=first|omega|assumption|(rw [dT];omega)|(rw [dF];omega)) only [↓iP,↓iN,iT,iF,wrap_up,tN,Nat.zero_add]
end
def inB (l:List Int) (x:Int):Bool:=decide (x∈l)
theorem in_ok (l:List Int) (x:Int) (hb:l.length≤4611686018427387904):CallOk tb Try.prog 47 (a47 l x) (.v (.bool (inB l x))) [.dead, .dead]:=by
 refine fn47 l x (Goes.ends (.step fun J=>e47 J l x) ?_)
 unfold inB
 by_cases h:x∈l
 ·obtain ⟨i,h1,h2⟩:=mem_getD 0 h
  rw [decide_eq_true h]
  exact Ends.at (fun i=>s47_l0 l x i) l.length (fun i=>l.getD i 0≠x) (fun i hi hp=>In.step hb hi hp) (fun i hi hp=>In.hit hb hi (by simpa using hp)) l.length 0 (Nat.zero_add _) ⟨i,Nat.zero_le _,h1,by simpa using h2⟩
 ·rw [decide_eq_false h]
  refine Goes.ends (Goes.upto (fun i=>s47_l0 l x i) l.length (fun i hi=>In.step hb hi fun e=>h (e▸getD_mem hi)) l.length (Nat.le_refl _)) In.out
def S47:List (AV Ty)→T (AV Ty×List (AV Ty))
 |[.sl false 3 l, .v (.int .i64 x)]=> .ite (l.length≤4611686018427387904) inferInstance (.ret (.v (.bool (inB l x)),[.dead, .dead])) .fail
 |_=> .fail
theorem S47_ok (l:List (AV Ty)) (r:AV Ty) (outs:List (AV Ty)) (h:(S47 l).val=some (r,outs)):CallOk tb Try.prog 47 l r outs:=by
 unfold S47 at h
 split at h
 ·rcases ite_val h with ⟨e,h⟩|⟨_,h⟩
  ·cases h;exact in_ok _ _ e
  ·cases h
 ·cases h
noncomputable def b150:Code:=bodyOf Try.f150
def C150:Cfg Ty:=⟨fun _=>none,fun _=>false,9,0⟩
def U150:Cuts:=⟨fun _=>none,fun _=>none,fun _=>none⟩
def a150 (x:Int):List (AV Ty):=[.v (.int .i64 x)]
noncomputable def R150 (x:Int):St Ty→EvR:=resT tb C150 Try.f150.results.toList .keep (a150 x)
theorem e150 (J x):run tb C150 U150 J (R150 x) 4096 [.code b150] ⟨slotsA (a150 x) 0 0,heapA (a150 x)⟩=
 if decide (x≥27)=true then
 some (.v (.bool (decide (x≤30))),[.dead])
 else
 some (.v (.bool false),[.dead]):=by kernel_rfl

theorem in150:Entered 150:=⟨Try.f150,b150,by kernel_rfl,by kernel_rfl,by kernel_rfl⟩
theorem fn150 (x:Int) {res:AV Ty} {outs:List (AV Ty)} (h:Ends C150 U150 (R150 x) [.code b150] ⟨slotsA (a150 x) 0 0,heapA (a150 x)⟩ (some (res,outs))):CallOk tb Try.prog 150 (a150 x) res outs:=by
 obtain ⟨n0,hn⟩:=h
 exact fn_ok (C:=C150) (U:=U150) (n:=0+n0) (q:= .keep) tbOk good (fun f mu S h=>by cases h) mixed (fn:=Try.f150) (body:=b150) (by kernel_rfl) (by kernel_rfl) rfl rfl (by show 1≤9;omega) (hn 0)
def endsB (x:Int):Bool:=decide (27≤x∧x≤30)
theorem ends_ok (x:Int):CallOk tb Try.prog 150 (a150 x) (.v (.bool (endsB x))) [.dead]:=by
 refine fn150 x (.step fun J=> ?_)
 rw [e150]
 unfold endsB
 by_cases h1:27≤x
 ·by_cases h2:x≤30
  ·simp [h1,h2]
  ·simp [h1,h2]
 ·simp [h1]
def S150:List (AV Ty)→T (AV Ty×List (AV Ty))
 |[.v (.int .i64 x)]=> .ret (.v (.bool (endsB x)),[.dead])
 |_=> .fail
theorem S150_ok (l:List (AV Ty)) (r:AV Ty) (outs:List (AV Ty)) (h:(S150 l).val=some (r,outs)):CallOk tb Try.prog 150 l r outs:=by
 unfold S150 at h
 split at h
 ·cases h;exact ends_ok _
 ·cases h
def mark (x:Int):Int×Int×Bool×Bool:=
 if x=1∨x=18 then (0,0,false,true)
 else if x=2∨x=3 then (0,0,true,false)
 else if (4≤x∧x≤15)∨x=19∨x=21 then (2,0,false,false)
 else if x=16∨x=20 then (1,0,false,false)
 else if x=17 then (3,0,false,false)
 else if x=22∨x=23 then (-1,0,true,false)
 else if x=24 then (1,0,true,false)
 else if x=25∨x=29 then (-1,0,false,false)
 else if x=26 then (-1,-1,false,false)
 else if x=27 then (0,1,false,false)
 else if x=28 then (1,2,false,false)
 else (0,0,false,false)
def markA (x:Int):Int:=(mark x).1
def markI (x:Int):Int:=(mark x).2.1
def markS (x:Int):Bool:=(mark x).2.2.1
def markN (x:Int):Bool:=(mark x).2.2.2
noncomputable def b167:Code:=bodyOf Try.f167
def C167:Cfg Ty:=⟨fun _=>none,fun _=>false,47,0⟩
def U167:Cuts:=⟨fun _=>none,fun _=>none,fun _=>none⟩
def a167 (x:Int):List (AV Ty):=[.v (.int .i64 x)]
noncomputable def R167 (x:Int):St Ty→EvR:=resT tb C167 Try.f167.results.toList .keep (a167 x)
theorem e167 (J x):run tb C167 U167 J (R167 x) 4096 [.code b167] ⟨slotsA (a167 x) 0 0,heapA (a167 x)⟩=
 if (x == 1)=true then
 some (.tup [.v (.int .i64 0), .v (.int .i64 0), .v (.bool false), .v (.bool true)],[.dead])
 else
 if (x == 18)=true then
 some (.tup [.v (.int .i64 0), .v (.int .i64 0), .v (.bool false), .v (.bool true)],[.dead])
 else
 if (x == 2)=true then
 some (.tup [.v (.int .i64 0), .v (.int .i64 0), .v (.bool true), .v (.bool false)],[.dead])
 else
 if (x == 3)=true then
 some (.tup [.v (.int .i64 0), .v (.int .i64 0), .v (.bool true), .v (.bool false)],[.dead])
 else
 if (x == 4)=true then
 some (.tup [.v (.int .i64 2), .v (.int .i64 0), .v (.bool false), .v (.bool false)],[.dead])
 else
 if (x == 5)=true then
 some (.tup [.v (.int .i64 2), .v (.int .i64 0), .v (.bool false), .v (.bool false)],[.dead])
 else
 if (x == 6)=true then
 some (.tup [.v (.int .i64 2), .v (.int .i64 0), .v (.bool false), .v (.bool false)],[.dead])
 else
 if (x == 7)=true then
 some (.tup [.v (.int .i64 2), .v (.int .i64 0), .v (.bool false), .v (.bool false)],[.dead])
 else
 if (x == 8)=true then
 some (.tup [.v (.int .i64 2), .v (.int .i64 0), .v (.bool false), .v (.bool false)],[.dead])
 else
 if (x == 9)=true then
 some (.tup [.v (.int .i64 2), .v (.int .i64 0), .v (.bool false), .v (.bool false)],[.dead])
 else
 if (x == 10)=true then
 some (.tup [.v (.int .i64 2), .v (.int .i64 0), .v (.bool false), .v (.bool false)],[.dead])
 else
 if (x == 11)=true then
 some (.tup [.v (.int .i64 2), .v (.int .i64 0), .v (.bool false), .v (.bool false)],[.dead])
 else
 if (x == 12)=true then
 some (.tup [.v (.int .i64 2), .v (.int .i64 0), .v (.bool false), .v (.bool false)],[.dead])
 else
 if (x == 13)=true then
 some (.tup [.v (.int .i64 2), .v (.int .i64 0), .v (.bool false), .v (.bool false)],[.dead])
 else
 if (x == 14)=true then
 some (.tup [.v (.int .i64 2), .v (.int .i64 0), .v (.bool false), .v (.bool false)],[.dead])
 else
 if (x == 15)=true then
 some (.tup [.v (.int .i64 2), .v (.int .i64 0), .v (.bool false), .v (.bool false)],[.dead])
 else
 if (x == 19)=true then
 some (.tup [.v (.int .i64 2), .v (.int .i64 0), .v (.bool false), .v (.bool false)],[.dead])
 else
 if (x == 21)=true then
 some (.tup [.v (.int .i64 2), .v (.int .i64 0), .v (.bool false), .v (.bool false)],[.dead])
 else
 if (x == 16)=true then
 some (.tup [.v (.int .i64 1), .v (.int .i64 0), .v (.bool false), .v (.bool false)],[.dead])
 else
 if (x == 20)=true then
 some (.tup [.v (.int .i64 1), .v (.int .i64 0), .v (.bool false), .v (.bool false)],[.dead])
 else
 if (x == 17)=true then
 some (.tup [.v (.int .i64 3), .v (.int .i64 0), .v (.bool false), .v (.bool false)],[.dead])
 else
 if (x == 22)=true then
 some (.tup [.v (.int .i64 (-1:Int)), .v (.int .i64 0), .v (.bool true), .v (.bool false)],[.dead])
 else
 if (x == 23)=true then
 some (.tup [.v (.int .i64 (-1:Int)), .v (.int .i64 0), .v (.bool true), .v (.bool false)],[.dead])
 else
 if (x == 24)=true then
 some (.tup [.v (.int .i64 1), .v (.int .i64 0), .v (.bool true), .v (.bool false)],[.dead])
 else
 if (x == 25)=true then
 some (.tup [.v (.int .i64 (-1:Int)), .v (.int .i64 0), .v (.bool false), .v (.bool false)],[.dead])
 else
 if (x == 29)=true then
 some (.tup [.v (.int .i64 (-1:Int)), .v (.int .i64 0), .v (.bool false), .v (.bool false)],[.dead])
 else
 if (x == 26)=true then
 some (.tup [.v (.int .i64 (-1:Int)), .v (.int .i64 (-1:Int)), .v (.bool false), .v (.bool false)],[.dead])
 else
 if (x == 27)=true then
 some (.tup [.v (.int .i64 0), .v (.int .i64 1), .v (.bool false), .v (.bool false)],[.dead])
 else
 if (x == 28)=true then
 some (.tup [.v (.int .i64 1), .v (.int .i64 2), .v (.bool false), .v (.bool false)],[.dead])
 else
 some (.tup [.v (.int .i64 0), .v (.int .i64 0), .v (.bool false), .v (.bool false)],[.dead]):=by kernel_rfl

theorem in167:Entered 167:=⟨Try.f167,b167,by kernel_rfl,by kernel_rfl,by kernel_rfl⟩
theorem fn167 (x:Int) {res:AV Ty} {outs:List (AV Ty)} (h:Ends C167 U167 (R167 x) [.code b167] ⟨slotsA (a167 x) 0 0,heapA (a167 x)⟩ (some (res,outs))):CallOk tb Try.prog 167 (a167 x) res outs:=by
 obtain ⟨n0,hn⟩:=h
 exact fn_ok (C:=C167) (U:=U167) (n:=0+n0) (q:= .keep) tbOk good (fun f mu S h=>by cases h) mixed (fn:=Try.f167) (body:=b167) (by kernel_rfl) (by kernel_rfl) rfl rfl (by show 1≤47;omega) (hn 0)
theorem mark_ok (x:Int):CallOk tb Try.prog 167 (a167 x) (.tup [.v (.int .i64 (markA x)), .v (.int .i64 (markI x)), .v (.bool (markS x)), .v (.bool (markN x))]) [.dead]:=by
 refine fn167 x (.step fun J=> ?_)
 rw [e167]
 unfold markA markI markS markN mark
 by_cases h:1≤x∧x≤28
 ·obtain ⟨h1,h2⟩:=h
  obtain ⟨n,rfl⟩:=Int.eq_ofNat_of_zero_le (show 0≤x by omega)
  have hn:n<29:=by omega
  match n,hn with
  |0,_=>omega
  |1,_=>rfl
  |2,_=>rfl
  |3,_=>rfl
  |4,_=>rfl
  |5,_=>rfl
  |6,_=>rfl
  |7,_=>rfl
  |8,_=>rfl
  |9,_=>rfl
  |10,_=>rfl
  |11,_=>rfl
  |12,_=>rfl
  |13,_=>rfl
  |14,_=>rfl
  |15,_=>rfl
  |16,_=>rfl
  |17,_=>rfl
  |18,_=>rfl
  |19,_=>rfl
  |20,_=>rfl
  |21,_=>rfl
  |22,_=>rfl
  |23,_=>rfl
  |24,_=>rfl
  |25,_=>rfl
  |26,_=>rfl
  |27,_=>rfl
  |28,_=>rfl
 ·by_cases h29:x=29
  ·subst h29;rfl
  ·simp (disch:=first|omega|assumption|(rw [dT];omega)|(rw [dF];omega)) only [↓iP,↓iN,iT,iF,wrap_up,tN,Nat.zero_add,beq_iff_eq]
def S167:List (AV Ty)→T (AV Ty×List (AV Ty))
 |[.v (.int .i64 x)]=> .ret (.tup [.v (.int .i64 (markA x)), .v (.int .i64 (markI x)), .v (.bool (markS x)), .v (.bool (markN x))],[.dead])
 |_=> .fail
theorem S167_ok (l:List (AV Ty)) (r:AV Ty) (outs:List (AV Ty)) (h:(S167 l).val=some (r,outs)):CallOk tb Try.prog 167 l r outs:=by
 unfold S167 at h
 split at h
 ·cases h;exact mark_ok _
 ·cases h
end Go.Proofs.Ytggibjbcbicpjaa.Ev
namespace Go.Proofs.Ytggibjbcbicpjaa.Ev
open Go
set_option linter.unusedVariables false
set_option linter.unusedSimpArgs false
def Tells (f:FuncId) (ar:List (AV Ty)) (outs:List (AV Ty)) (Q:Prop) (b:Bool):Prop:=CallOk tb Try.prog f ar (.v (.bool b)) outs∧(b=true→Q)
open Classical in
noncomputable def told (f:FuncId) (ar:List (AV Ty)) (outs:List (AV Ty)) (Q:Prop):Bool:=if h: ∃b,Tells f ar outs Q b then Classical.choose h else false
theorem told_ok {f:FuncId} {ar outs:List (AV Ty)} {Q:Prop} (h: ∃b,Tells f ar outs Q b):CallOk tb Try.prog f ar (.v (.bool (told f ar outs Q))) outs∧(told f ar outs Q=true→Q):=by
 unfold told
 rw [dif_pos h]
 exact Classical.choose_spec h
abbrev rD (b:Bool):EvR:=some (.v (.bool b),[.dead])
def FormQ (i:Ev.Ins):Prop:=(1≤i.op∧i.op≤30∧0≤i.type_∧i.type_≤4∧(0≤markA i.op→(i.args.length:Int)=markA i.op)∧(0≤markI i.op→(i.into.length:Int)=markI i.op)∧(i.op=26→1≤i.args.length∧i.into.length=i.args.length)∧(i.op=25→1≤i.args.length))∧(i.type_=0→i.to_=0)∧(i.type_≠0→1≤i.to_)
noncomputable def b148:Code:=bodyOf Try.f148
noncomputable def C148:Cfg Ty:=⟨fun
 |167=>some ([],S167)
 |150=>some ([],S150)
 |_=>none,fun _=>false,150,0⟩
def U148:Cuts:=⟨fun
 |0=>some [(1,none),(8,none)]
 |_=>none,fun _=>none,fun _=>none⟩
noncomputable def k148_j0:List Item:=[.code (sndC (sndC (sndC (sndC (sndC (sndC (sndC b148)))))))]
def a148 (i:Ins):List (AV Ty):=[.agg [.v (.int .i64 i.op), .v (.int .i64 i.type_), .v (.int .i64 i.to_), .v (.int .i64 i.sym_), .v (.int .i64 i.num), .sl false (3:Nat) i.args, .sl false (3:Nat) i.into]]
noncomputable def R148 (i:Ins):St Ty→EvR:=resT tb C148 Try.f148.results.toList .keep (a148 i)
def s148_j0 (i:Ins) (v8:Bool) (h0:List Ins):St Ty:=St.mk [(1, .ptr (0) [] (0) (0)),(8, .v (.bool v8))] [some (Root.mk (46) false h0)]
theorem e148 (J i):run tb C148 U148 J (R148 i) 4096 [.code b148] ⟨slotsA (a148 i) 0 0,heapA (a148 i)⟩=
 if decide (i.op<1)=false then
 if decide (i.op>30)=false then
 if decide (i.type_<0)=false then
 if decide (i.type_>4)=true then
 some (.v (.bool false),[.dead])
 else
 if decide (markA i.op≥0)=true then
 if ((↑i.args.length:Int) != markA i.op)=false then
 if decide (markI i.op≥0)=true then
 if ((↑i.into.length:Int) != markI i.op)=false then
 if (!markS i.op)=true then
 if (i.sym_ != 0)=false then
 if (!markN i.op)=true then
 if (i.num != 0)=true then
 some (.v (.bool false),[.dead])
 else
 if (i.op == 26)=true then
 if decide ((↑i.args.length:Int)<1)=false then
 if ((↑i.into.length:Int) != (↑i.args.length:Int))=true then
 some (.v (.bool false),[.dead])
 else
 J k148_j0 (s148_j0 i false ([Ins.mk i.op i.type_ i.to_ i.sym_ i.num i.args i.into]))
 else
 some (.v (.bool false),[.dead])
 else
 if (i.op == 29)=true then
 if decide ((↑i.args.length:Int)>1)=true then
 some (.v (.bool false),[.dead])
 else
 J k148_j0 (s148_j0 i false ([Ins.mk i.op i.type_ i.to_ i.sym_ i.num i.args i.into]))
 else
 if (i.op == 25)=true then
 if decide ((↑i.args.length:Int)<1)=false then
 if decide ((↑i.args.length:Int)>6)=true then
 some (.v (.bool false),[.dead])
 else
 J k148_j0 (s148_j0 i true ([Ins.mk i.op i.type_ i.to_ i.sym_ i.num i.args i.into]))
 else
 some (.v (.bool false),[.dead])
 else
 if (i.op == 22)=true then
 if decide ((↑i.args.length:Int)>5)=true then
 some (.v (.bool false),[.dead])
 else
 J k148_j0 (s148_j0 i true ([Ins.mk i.op i.type_ i.to_ i.sym_ i.num i.args i.into]))
 else
 if (i.op == 23)=true then
 if decide ((↑i.args.length:Int)>5)=true then
 some (.v (.bool false),[.dead])
 else
 J k148_j0 (s148_j0 i true ([Ins.mk i.op i.type_ i.to_ i.sym_ i.num i.args i.into]))
 else
 if (i.op == 18)=true then
 if decide (i.num<1)=false then
 if decide (i.num>16)=true then
 some (.v (.bool false),[.dead])
 else
 J k148_j0 (s148_j0 i false ([Ins.mk i.op i.type_ i.to_ i.sym_ i.num i.args i.into]))
 else
 some (.v (.bool false),[.dead])
 else
 J k148_j0 (s148_j0 i false ([Ins.mk i.op i.type_ i.to_ i.sym_ i.num i.args i.into]))
 else
 if (i.op == 26)=true then
 if decide ((↑i.args.length:Int)<1)=false then
 if ((↑i.into.length:Int) != (↑i.args.length:Int))=true then
 some (.v (.bool false),[.dead])
 else
 J k148_j0 (s148_j0 i false ([Ins.mk i.op i.type_ i.to_ i.sym_ i.num i.args i.into]))
 else
 some (.v (.bool false),[.dead])
 else
 if (i.op == 29)=true then
 if decide ((↑i.args.length:Int)>1)=true then
 some (.v (.bool false),[.dead])
 else
 J k148_j0 (s148_j0 i false ([Ins.mk i.op i.type_ i.to_ i.sym_ i.num i.args i.into]))
 else
 if (i.op == 25)=true then
 if decide ((↑i.args.length:Int)<1)=false then
 if decide ((↑i.args.length:Int)>6)=true then
 some (.v (.bool false),[.dead])
 else
 J k148_j0 (s148_j0 i true ([Ins.mk i.op i.type_ i.to_ i.sym_ i.num i.args i.into]))
 else
 some (.v (.bool false),[.dead])
 else
 if (i.op == 22)=true then
 if decide ((↑i.args.length:Int)>5)=true then
 some (.v (.bool false),[.dead])
 else
 J k148_j0 (s148_j0 i true ([Ins.mk i.op i.type_ i.to_ i.sym_ i.num i.args i.into]))
 else
 if (i.op == 23)=true then
 if decide ((↑i.args.length:Int)>5)=true then
 some (.v (.bool false),[.dead])
 else
 J k148_j0 (s148_j0 i true ([Ins.mk i.op i.type_ i.to_ i.sym_ i.num i.args i.into]))
 else
 if (i.op == 18)=true then
 if decide (i.num<1)=false then
 if decide (i.num>16)=true then
 some (.v (.bool false),[.dead])
 else
 J k148_j0 (s148_j0 i false ([Ins.mk i.op i.type_ i.to_ i.sym_ i.num i.args i.into]))
 else
 some (.v (.bool false),[.dead])
 else
 J k148_j0 (s148_j0 i false ([Ins.mk i.op i.type_ i.to_ i.sym_ i.num i.args i.into]))
 else
 some (.v (.bool false),[.dead])
 else
 if (!markN i.op)=true then
 if (i.num != 0)=true then
 some (.v (.bool false),[.dead])
 else
 if (i.op == 26)=true then
 if decide ((↑i.args.length:Int)<1)=false then
 if ((↑i.into.length:Int) != (↑i.args.length:Int))=true then
 some (.v (.bool false),[.dead])
 else
 J k148_j0 (s148_j0 i false ([Ins.mk i.op i.type_ i.to_ i.sym_ i.num i.args i.into]))
 else
 some (.v (.bool false),[.dead])
 else
 if (i.op == 29)=true then
 if decide ((↑i.args.length:Int)>1)=true then
 some (.v (.bool false),[.dead])
 else
 J k148_j0 (s148_j0 i false ([Ins.mk i.op i.type_ i.to_ i.sym_ i.num i.args i.into]))
 else
 if (i.op == 25)=true then
 if decide ((↑i.args.length:Int)<1)=false then
 if decide ((↑i.args.length:Int)>6)=true then
 some (.v (.bool false),[.dead])
 else
 J k148_j0 (s148_j0 i true ([Ins.mk i.op i.type_ i.to_ i.sym_ i.num i.args i.into]))
 else
 some (.v (.bool false),[.dead])
 else
 if (i.op == 22)=true then
 if decide ((↑i.args.length:Int)>5)=true then
 some (.v (.bool false),[.dead])
 else
 J k148_j0 (s148_j0 i true ([Ins.mk i.op i.type_ i.to_ i.sym_ i.num i.args i.into]))
 else
 if (i.op == 23)=true then
 if decide ((↑i.args.length:Int)>5)=true then
 some (.v (.bool false),[.dead])
 else
 J k148_j0 (s148_j0 i true ([Ins.mk i.op i.type_ i.to_ i.sym_ i.num i.args i.into]))
 else
 if (i.op == 18)=true then
 if decide (i.num<1)=false then
 if decide (i.num>16)=true then
 some (.v (.bool false),[.dead])
 else
 J k148_j0 (s148_j0 i false ([Ins.mk i.op i.type_ i.to_ i.sym_ i.num i.args i.into]))
 else
 some (.v (.bool false),[.dead])
 else
 J k148_j0 (s148_j0 i false ([Ins.mk i.op i.type_ i.to_ i.sym_ i.num i.args i.into]))
 else
 if (i.op == 26)=true then
 if decide ((↑i.args.length:Int)<1)=false then
 if ((↑i.into.length:Int) != (↑i.args.length:Int))=true then
 some (.v (.bool false),[.dead])
 else
 J k148_j0 (s148_j0 i false ([Ins.mk i.op i.type_ i.to_ i.sym_ i.num i.args i.into]))
 else
 some (.v (.bool false),[.dead])
 else
 if (i.op == 29)=true then
 if decide ((↑i.args.length:Int)>1)=true then
 some (.v (.bool false),[.dead])
 else
 J k148_j0 (s148_j0 i false ([Ins.mk i.op i.type_ i.to_ i.sym_ i.num i.args i.into]))
 else
 if (i.op == 25)=true then
 if decide ((↑i.args.length:Int)<1)=false then
 if decide ((↑i.args.length:Int)>6)=true then
 some (.v (.bool false),[.dead])
 else
 J k148_j0 (s148_j0 i true ([Ins.mk i.op i.type_ i.to_ i.sym_ i.num i.args i.into]))
 else
 some (.v (.bool false),[.dead])
 else
 if (i.op == 22)=true then
 if decide ((↑i.args.length:Int)>5)=true then
 some (.v (.bool false),[.dead])
 else
 J k148_j0 (s148_j0 i true ([Ins.mk i.op i.type_ i.to_ i.sym_ i.num i.args i.into]))
 else
 if (i.op == 23)=true then
 if decide ((↑i.args.length:Int)>5)=true then
 some (.v (.bool false),[.dead])
 else
 J k148_j0 (s148_j0 i true ([Ins.mk i.op i.type_ i.to_ i.sym_ i.num i.args i.into]))
 else
 if (i.op == 18)=true then
 if decide (i.num<1)=false then
 if decide (i.num>16)=true then
 some (.v (.bool false),[.dead])
 else
 J k148_j0 (s148_j0 i false ([Ins.mk i.op i.type_ i.to_ i.sym_ i.num i.args i.into]))
 else
 some (.v (.bool false),[.dead])
 else
 J k148_j0 (s148_j0 i false ([Ins.mk i.op i.type_ i.to_ i.sym_ i.num i.args i.into]))
 else
 some (.v (.bool false),[.dead])
 else
 if (!markS i.op)=true then
 if (i.sym_ != 0)=false then
 if (!markN i.op)=true then
 if (i.num != 0)=true then
 some (.v (.bool false),[.dead])
 else
 if (i.op == 26)=true then
 if decide ((↑i.args.length:Int)<1)=false then
 if ((↑i.into.length:Int) != (↑i.args.length:Int))=true then
 some (.v (.bool false),[.dead])
 else
 J k148_j0 (s148_j0 i false ([Ins.mk i.op i.type_ i.to_ i.sym_ i.num i.args i.into]))
 else
 some (.v (.bool false),[.dead])
 else
 if (i.op == 29)=true then
 if decide ((↑i.args.length:Int)>1)=true then
 some (.v (.bool false),[.dead])
 else
 J k148_j0 (s148_j0 i false ([Ins.mk i.op i.type_ i.to_ i.sym_ i.num i.args i.into]))
 else
 if (i.op == 25)=true then
 if decide ((↑i.args.length:Int)<1)=false then
 if decide ((↑i.args.length:Int)>6)=true then
 some (.v (.bool false),[.dead])
 else
 J k148_j0 (s148_j0 i true ([Ins.mk i.op i.type_ i.to_ i.sym_ i.num i.args i.into]))
 else
 some (.v (.bool false),[.dead])
 else
 if (i.op == 22)=true then
 if decide ((↑i.args.length:Int)>5)=true then
 some (.v (.bool false),[.dead])
 else
 J k148_j0 (s148_j0 i true ([Ins.mk i.op i.type_ i.to_ i.sym_ i.num i.args i.into]))
 else
 if (i.op == 23)=true then
 if decide ((↑i.args.length:Int)>5)=true then
 some (.v (.bool false),[.dead])
 else
 J k148_j0 (s148_j0 i true ([Ins.mk i.op i.type_ i.to_ i.sym_ i.num i.args i.into]))
 else
 if (i.op == 18)=true then
 if decide (i.num<1)=false then
 if decide (i.num>16)=true then
 some (.v (.bool false),[.dead])
 else
 J k148_j0 (s148_j0 i false ([Ins.mk i.op i.type_ i.to_ i.sym_ i.num i.args i.into]))
 else
 some (.v (.bool false),[.dead])
 else
 J k148_j0 (s148_j0 i false ([Ins.mk i.op i.type_ i.to_ i.sym_ i.num i.args i.into]))
 else
 if (i.op == 26)=true then
 if decide ((↑i.args.length:Int)<1)=false then
 if ((↑i.into.length:Int) != (↑i.args.length:Int))=true then
 some (.v (.bool false),[.dead])
 else
 J k148_j0 (s148_j0 i false ([Ins.mk i.op i.type_ i.to_ i.sym_ i.num i.args i.into]))
 else
 some (.v (.bool false),[.dead])
 else
 if (i.op == 29)=true then
 if decide ((↑i.args.length:Int)>1)=true then
 some (.v (.bool false),[.dead])
 else
 J k148_j0 (s148_j0 i false ([Ins.mk i.op i.type_ i.to_ i.sym_ i.num i.args i.into]))
 else
 if (i.op == 25)=true then
 if decide ((↑i.args.length:Int)<1)=false then
 if decide ((↑i.args.length:Int)>6)=true then
 some (.v (.bool false),[.dead])
 else
 J k148_j0 (s148_j0 i true ([Ins.mk i.op i.type_ i.to_ i.sym_ i.num i.args i.into]))
 else
 some (.v (.bool false),[.dead])
 else
 if (i.op == 22)=true then
 if decide ((↑i.args.length:Int)>5)=true then
 some (.v (.bool false),[.dead])
 else
 J k148_j0 (s148_j0 i true ([Ins.mk i.op i.type_ i.to_ i.sym_ i.num i.args i.into]))
 else
 if (i.op == 23)=true then
 if decide ((↑i.args.length:Int)>5)=true then
 some (.v (.bool false),[.dead])
 else
 J k148_j0 (s148_j0 i true ([Ins.mk i.op i.type_ i.to_ i.sym_ i.num i.args i.into]))
 else
 if (i.op == 18)=true then
 if decide (i.num<1)=false then
 if decide (i.num>16)=true then
 some (.v (.bool false),[.dead])
 else
 J k148_j0 (s148_j0 i false ([Ins.mk i.op i.type_ i.to_ i.sym_ i.num i.args i.into]))
 else
 some (.v (.bool false),[.dead])
 else
 J k148_j0 (s148_j0 i false ([Ins.mk i.op i.type_ i.to_ i.sym_ i.num i.args i.into]))
 else
 some (.v (.bool false),[.dead])
 else
 if (!markN i.op)=true then
 if (i.num != 0)=true then
 some (.v (.bool false),[.dead])
 else
 if (i.op == 26)=true then
 if decide ((↑i.args.length:Int)<1)=false then
 if ((↑i.into.length:Int) != (↑i.args.length:Int))=true then
 some (.v (.bool false),[.dead])
 else
 J k148_j0 (s148_j0 i false ([Ins.mk i.op i.type_ i.to_ i.sym_ i.num i.args i.into]))
 else
 some (.v (.bool false),[.dead])
 else
 if (i.op == 29)=true then
 if decide ((↑i.args.length:Int)>1)=true then
 some (.v (.bool false),[.dead])
 else
 J k148_j0 (s148_j0 i false ([Ins.mk i.op i.type_ i.to_ i.sym_ i.num i.args i.into]))
 else
 if (i.op == 25)=true then
 if decide ((↑i.args.length:Int)<1)=false then
 if decide ((↑i.args.length:Int)>6)=true then
 some (.v (.bool false),[.dead])
 else
 J k148_j0 (s148_j0 i true ([Ins.mk i.op i.type_ i.to_ i.sym_ i.num i.args i.into]))
 else
 some (.v (.bool false),[.dead])
 else
 if (i.op == 22)=true then
 if decide ((↑i.args.length:Int)>5)=true then
 some (.v (.bool false),[.dead])
 else
 J k148_j0 (s148_j0 i true ([Ins.mk i.op i.type_ i.to_ i.sym_ i.num i.args i.into]))
 else
 if (i.op == 23)=true then
 if decide ((↑i.args.length:Int)>5)=true then
 some (.v (.bool false),[.dead])
 else
 J k148_j0 (s148_j0 i true ([Ins.mk i.op i.type_ i.to_ i.sym_ i.num i.args i.into]))
 else
 if (i.op == 18)=true then
 if decide (i.num<1)=false then
 if decide (i.num>16)=true then
 some (.v (.bool false),[.dead])
 else
 J k148_j0 (s148_j0 i false ([Ins.mk i.op i.type_ i.to_ i.sym_ i.num i.args i.into]))
 else
 some (.v (.bool false),[.dead])
 else
 J k148_j0 (s148_j0 i false ([Ins.mk i.op i.type_ i.to_ i.sym_ i.num i.args i.into]))
 else
 if (i.op == 26)=true then
 if decide ((↑i.args.length:Int)<1)=false then
 if ((↑i.into.length:Int) != (↑i.args.length:Int))=true then
 some (.v (.bool false),[.dead])
 else
 J k148_j0 (s148_j0 i false ([Ins.mk i.op i.type_ i.to_ i.sym_ i.num i.args i.into]))
 else
 some (.v (.bool false),[.dead])
 else
 if (i.op == 29)=true then
 if decide ((↑i.args.length:Int)>1)=true then
 some (.v (.bool false),[.dead])
 else
 J k148_j0 (s148_j0 i false ([Ins.mk i.op i.type_ i.to_ i.sym_ i.num i.args i.into]))
 else
 if (i.op == 25)=true then
 if decide ((↑i.args.length:Int)<1)=false then
 if decide ((↑i.args.length:Int)>6)=true then
 some (.v (.bool false),[.dead])
 else
 J k148_j0 (s148_j0 i true ([Ins.mk i.op i.type_ i.to_ i.sym_ i.num i.args i.into]))
 else
 some (.v (.bool false),[.dead])
 else
 if (i.op == 22)=true then
 if decide ((↑i.args.length:Int)>5)=true then
 some (.v (.bool false),[.dead])
 else
 J k148_j0 (s148_j0 i true ([Ins.mk i.op i.type_ i.to_ i.sym_ i.num i.args i.into]))
 else
 if (i.op == 23)=true then
 if decide ((↑i.args.length:Int)>5)=true then
 some (.v (.bool false),[.dead])
 else
 J k148_j0 (s148_j0 i true ([Ins.mk i.op i.type_ i.to_ i.sym_ i.num i.args i.into]))
 else
 if (i.op == 18)=true then
 if decide (i.num<1)=false then
 if decide (i.num>16)=true then
 some (.v (.bool false),[.dead])
 else
 J k148_j0 (s148_j0 i false ([Ins.mk i.op i.type_ i.to_ i.sym_ i.num i.args i.into]))
 else
 some (.v (.bool false),[.dead])
 else
 J k148_j0 (s148_j0 i false ([Ins.mk i.op i.type_ i.to_ i.sym_ i.num i.args i.into]))
 else
 some (.v (.bool false),[.dead])
 else
 if decide (markI i.op≥0)=true then
 if ((↑i.into.length:Int) != markI i.op)=false then
 if (!markS i.op)=true then
 if (i.sym_ != 0)=false then
 if (!markN i.op)=true then
 if (i.num != 0)=true then
 some (.v (.bool false),[.dead])
 else
 if (i.op == 26)=true then
 if decide ((↑i.args.length:Int)<1)=false then
 if ((↑i.into.length:Int) != (↑i.args.length:Int))=true then
 some (.v (.bool false),[.dead])
 else
 J k148_j0 (s148_j0 i false ([Ins.mk i.op i.type_ i.to_ i.sym_ i.num i.args i.into]))
 else
 some (.v (.bool false),[.dead])
 else
 if (i.op == 29)=true then
 if decide ((↑i.args.length:Int)>1)=true then
 some (.v (.bool false),[.dead])
 else
 J k148_j0 (s148_j0 i false ([Ins.mk i.op i.type_ i.to_ i.sym_ i.num i.args i.into]))
 else
 if (i.op == 25)=true then
 if decide ((↑i.args.length:Int)<1)=false then
 if decide ((↑i.args.length:Int)>6)=true then
 some (.v (.bool false),[.dead])
 else
 J k148_j0 (s148_j0 i true ([Ins.mk i.op i.type_ i.to_ i.sym_ i.num i.args i.into]))
 else
 some (.v (.bool false),[.dead])
 else
 if (i.op == 22)=true then
 if decide ((↑i.args.length:Int)>5)=true then
 some (.v (.bool false),[.dead])
 else
 J k148_j0 (s148_j0 i true ([Ins.mk i.op i.type_ i.to_ i.sym_ i.num i.args i.into]))
 else
 if (i.op == 23)=true then
 if decide ((↑i.args.length:Int)>5)=true then
 some (.v (.bool false),[.dead])
 else
 J k148_j0 (s148_j0 i true ([Ins.mk i.op i.type_ i.to_ i.sym_ i.num i.args i.into]))
 else
 if (i.op == 18)=true then
 if decide (i.num<1)=false then
 if decide (i.num>16)=true then
 some (.v (.bool false),[.dead])
 else
 J k148_j0 (s148_j0 i false ([Ins.mk i.op i.type_ i.to_ i.sym_ i.num i.args i.into]))
 else
 some (.v (.bool false),[.dead])
 else
 J k148_j0 (s148_j0 i false ([Ins.mk i.op i.type_ i.to_ i.sym_ i.num i.args i.into]))
 else
 if (i.op == 26)=true then
 if decide ((↑i.args.length:Int)<1)=false then
 if ((↑i.into.length:Int) != (↑i.args.length:Int))=true then
 some (.v (.bool false),[.dead])
 else
 J k148_j0 (s148_j0 i false ([Ins.mk i.op i.type_ i.to_ i.sym_ i.num i.args i.into]))
 else
 some (.v (.bool false),[.dead])
 else
 if (i.op == 29)=true then
 if decide ((↑i.args.length:Int)>1)=true then
 some (.v (.bool false),[.dead])
 else
 J k148_j0 (s148_j0 i false ([Ins.mk i.op i.type_ i.to_ i.sym_ i.num i.args i.into]))
 else
 if (i.op == 25)=true then
 if decide ((↑i.args.length:Int)<1)=false then
 if decide ((↑i.args.length:Int)>6)=true then
 some (.v (.bool false),[.dead])
 else
 J k148_j0 (s148_j0 i true ([Ins.mk i.op i.type_ i.to_ i.sym_ i.num i.args i.into]))
 else
 some (.v (.bool false),[.dead])
 else
 if (i.op == 22)=true then
 if decide ((↑i.args.length:Int)>5)=true then
 some (.v (.bool false),[.dead])
 else
 J k148_j0 (s148_j0 i true ([Ins.mk i.op i.type_ i.to_ i.sym_ i.num i.args i.into]))
 else
 if (i.op == 23)=true then
 if decide ((↑i.args.length:Int)>5)=true then
 some (.v (.bool false),[.dead])
 else
 J k148_j0 (s148_j0 i true ([Ins.mk i.op i.type_ i.to_ i.sym_ i.num i.args i.into]))
 else
 if (i.op == 18)=true then
 if decide (i.num<1)=false then
 if decide (i.num>16)=true then
 some (.v (.bool false),[.dead])
 else
 J k148_j0 (s148_j0 i false ([Ins.mk i.op i.type_ i.to_ i.sym_ i.num i.args i.into]))
 else
 some (.v (.bool false),[.dead])
 else
 J k148_j0 (s148_j0 i false ([Ins.mk i.op i.type_ i.to_ i.sym_ i.num i.args i.into]))
 else
 some (.v (.bool false),[.dead])
 else
 if (!markN i.op)=true then
 if (i.num != 0)=true then
 some (.v (.bool false),[.dead])
 else
 if (i.op == 26)=true then
 if decide ((↑i.args.length:Int)<1)=false then
 if ((↑i.into.length:Int) != (↑i.args.length:Int))=true then
 some (.v (.bool false),[.dead])
 else
 J k148_j0 (s148_j0 i false ([Ins.mk i.op i.type_ i.to_ i.sym_ i.num i.args i.into]))
 else
 some (.v (.bool false),[.dead])
 else
 if (i.op == 29)=true then
 if decide ((↑i.args.length:Int)>1)=true then
 some (.v (.bool false),[.dead])
 else
 J k148_j0 (s148_j0 i false ([Ins.mk i.op i.type_ i.to_ i.sym_ i.num i.args i.into]))
 else
 if (i.op == 25)=true then
 if decide ((↑i.args.length:Int)<1)=false then
 if decide ((↑i.args.length:Int)>6)=true then
 some (.v (.bool false),[.dead])
 else
 J k148_j0 (s148_j0 i true ([Ins.mk i.op i.type_ i.to_ i.sym_ i.num i.args i.into]))
 else
 some (.v (.bool false),[.dead])
 else
 if (i.op == 22)=true then
 if decide ((↑i.args.length:Int)>5)=true then
 some (.v (.bool false),[.dead])
 else
 J k148_j0 (s148_j0 i true ([Ins.mk i.op i.type_ i.to_ i.sym_ i.num i.args i.into]))
 else
 if (i.op == 23)=true then
 if decide ((↑i.args.length:Int)>5)=true then
 some (.v (.bool false),[.dead])
 else
 J k148_j0 (s148_j0 i true ([Ins.mk i.op i.type_ i.to_ i.sym_ i.num i.args i.into]))
 else
 if (i.op == 18)=true then
 if decide (i.num<1)=false then
 if decide (i.num>16)=true then
 some (.v (.bool false),[.dead])
 else
 J k148_j0 (s148_j0 i false ([Ins.mk i.op i.type_ i.to_ i.sym_ i.num i.args i.into]))
 else
 some (.v (.bool false),[.dead])
 else
 J k148_j0 (s148_j0 i false ([Ins.mk i.op i.type_ i.to_ i.sym_ i.num i.args i.into]))
 else
 if (i.op == 26)=true then
 if decide ((↑i.args.length:Int)<1)=false then
 if ((↑i.into.length:Int) != (↑i.args.length:Int))=true then
 some (.v (.bool false),[.dead])
 else
 J k148_j0 (s148_j0 i false ([Ins.mk i.op i.type_ i.to_ i.sym_ i.num i.args i.into]))
 else
 some (.v (.bool false),[.dead])
 else
 if (i.op == 29)=true then
 if decide ((↑i.args.length:Int)>1)=true then
 some (.v (.bool false),[.dead])
 else
 J k148_j0 (s148_j0 i false ([Ins.mk i.op i.type_ i.to_ i.sym_ i.num i.args i.into]))
 else
 if (i.op == 25)=true then
 if decide ((↑i.args.length:Int)<1)=false then
 if decide ((↑i.args.length:Int)>6)=true then
 some (.v (.bool false),[.dead])
 else
 J k148_j0 (s148_j0 i true ([Ins.mk i.op i.type_ i.to_ i.sym_ i.num i.args i.into]))
 else
 some (.v (.bool false),[.dead])
 else
 if (i.op == 22)=true then
 if decide ((↑i.args.length:Int)>5)=true then
 some (.v (.bool false),[.dead])
 else
 J k148_j0 (s148_j0 i true ([Ins.mk i.op i.type_ i.to_ i.sym_ i.num i.args i.into]))
 else
 if (i.op == 23)=true then
 if decide ((↑i.args.length:Int)>5)=true then
 some (.v (.bool false),[.dead])
 else
 J k148_j0 (s148_j0 i true ([Ins.mk i.op i.type_ i.to_ i.sym_ i.num i.args i.into]))
 else
 if (i.op == 18)=true then
 if decide (i.num<1)=false then
 if decide (i.num>16)=true then
 some (.v (.bool false),[.dead])
 else
 J k148_j0 (s148_j0 i false ([Ins.mk i.op i.type_ i.to_ i.sym_ i.num i.args i.into]))
 else
 some (.v (.bool false),[.dead])
 else
 J k148_j0 (s148_j0 i false ([Ins.mk i.op i.type_ i.to_ i.sym_ i.num i.args i.into]))
 else
 some (.v (.bool false),[.dead])
 else
 if (!markS i.op)=true then
 if (i.sym_ != 0)=false then
 if (!markN i.op)=true then
 if (i.num != 0)=true then
 some (.v (.bool false),[.dead])
 else
 if (i.op == 26)=true then
 if decide ((↑i.args.length:Int)<1)=false then
 if ((↑i.into.length:Int) != (↑i.args.length:Int))=true then
 some (.v (.bool false),[.dead])
 else
 J k148_j0 (s148_j0 i false ([Ins.mk i.op i.type_ i.to_ i.sym_ i.num i.args i.into]))
 else
 some (.v (.bool false),[.dead])
 else
 if (i.op == 29)=true then
 if decide ((↑i.args.length:Int)>1)=true then
 some (.v (.bool false),[.dead])
 else
 J k148_j0 (s148_j0 i false ([Ins.mk i.op i.type_ i.to_ i.sym_ i.num i.args i.into]))
 else
 if (i.op == 25)=true then
 if decide ((↑i.args.length:Int)<1)=false then
 if decide ((↑i.args.length:Int)>6)=true then
 some (.v (.bool false),[.dead])
 else
 J k148_j0 (s148_j0 i true ([Ins.mk i.op i.type_ i.to_ i.sym_ i.num i.args i.into]))
 else
 some (.v (.bool false),[.dead])
 else
 if (i.op == 22)=true then
 if decide ((↑i.args.length:Int)>5)=true then
 some (.v (.bool false),[.dead])
 else
 J k148_j0 (s148_j0 i true ([Ins.mk i.op i.type_ i.to_ i.sym_ i.num i.args i.into]))
 else
 if (i.op == 23)=true then
 if decide ((↑i.args.length:Int)>5)=true then
 some (.v (.bool false),[.dead])
 else
 J k148_j0 (s148_j0 i true ([Ins.mk i.op i.type_ i.to_ i.sym_ i.num i.args i.into]))
 else
 if (i.op == 18)=true then
 if decide (i.num<1)=false then
 if decide (i.num>16)=true then
 some (.v (.bool false),[.dead])
 else
 J k148_j0 (s148_j0 i false ([Ins.mk i.op i.type_ i.to_ i.sym_ i.num i.args i.into]))
 else
 some (.v (.bool false),[.dead])
 else
 J k148_j0 (s148_j0 i false ([Ins.mk i.op i.type_ i.to_ i.sym_ i.num i.args i.into]))
 else
 if (i.op == 26)=true then
 if decide ((↑i.args.length:Int)<1)=false then
 if ((↑i.into.length:Int) != (↑i.args.length:Int))=true then
 some (.v (.bool false),[.dead])
 else
 J k148_j0 (s148_j0 i false ([Ins.mk i.op i.type_ i.to_ i.sym_ i.num i.args i.into]))
 else
 some (.v (.bool false),[.dead])
 else
 if (i.op == 29)=true then
 if decide ((↑i.args.length:Int)>1)=true then
 some (.v (.bool false),[.dead])
 else
 J k148_j0 (s148_j0 i false ([Ins.mk i.op i.type_ i.to_ i.sym_ i.num i.args i.into]))
 else
 if (i.op == 25)=true then
 if decide ((↑i.args.length:Int)<1)=false then
 if decide ((↑i.args.length:Int)>6)=true then
 some (.v (.bool false),[.dead])
 else
 J k148_j0 (s148_j0 i true ([Ins.mk i.op i.type_ i.to_ i.sym_ i.num i.args i.into]))
 else
 some (.v (.bool false),[.dead])
 else
 if (i.op == 22)=true then
 if decide ((↑i.args.length:Int)>5)=true then
 some (.v (.bool false),[.dead])
 else
 J k148_j0 (s148_j0 i true ([Ins.mk i.op i.type_ i.to_ i.sym_ i.num i.args i.into]))
 else
 if (i.op == 23)=true then
 if decide ((↑i.args.length:Int)>5)=true then
 some (.v (.bool false),[.dead])
 else
 J k148_j0 (s148_j0 i true ([Ins.mk i.op i.type_ i.to_ i.sym_ i.num i.args i.into]))
 else
 if (i.op == 18)=true then
 if decide (i.num<1)=false then
 if decide (i.num>16)=true then
 some (.v (.bool false),[.dead])
 else
 J k148_j0 (s148_j0 i false ([Ins.mk i.op i.type_ i.to_ i.sym_ i.num i.args i.into]))
 else
 some (.v (.bool false),[.dead])
 else
 J k148_j0 (s148_j0 i false ([Ins.mk i.op i.type_ i.to_ i.sym_ i.num i.args i.into]))
 else
 some (.v (.bool false),[.dead])
 else
 if (!markN i.op)=true then
 if (i.num != 0)=true then
 some (.v (.bool false),[.dead])
 else
 if (i.op == 26)=true then
 if decide ((↑i.args.length:Int)<1)=false then
 if ((↑i.into.length:Int) != (↑i.args.length:Int))=true then
 some (.v (.bool false),[.dead])
 else
 J k148_j0 (s148_j0 i false ([Ins.mk i.op i.type_ i.to_ i.sym_ i.num i.args i.into]))
 else
 some (.v (.bool false),[.dead])
 else
 if (i.op == 29)=true then
 if decide ((↑i.args.length:Int)>1)=true then
 some (.v (.bool false),[.dead])
 else
 J k148_j0 (s148_j0 i false ([Ins.mk i.op i.type_ i.to_ i.sym_ i.num i.args i.into]))
 else
 if (i.op == 25)=true then
 if decide ((↑i.args.length:Int)<1)=false then
 if decide ((↑i.args.length:Int)>6)=true then
 some (.v (.bool false),[.dead])
 else
 J k148_j0 (s148_j0 i true ([Ins.mk i.op i.type_ i.to_ i.sym_ i.num i.args i.into]))
 else
 some (.v (.bool false),[.dead])
 else
 if (i.op == 22)=true then
 if decide ((↑i.args.length:Int)>5)=true then
 some (.v (.bool false),[.dead])
 else
 J k148_j0 (s148_j0 i true ([Ins.mk i.op i.type_ i.to_ i.sym_ i.num i.args i.into]))
 else
 if (i.op == 23)=true then
 if decide ((↑i.args.length:Int)>5)=true then
 some (.v (.bool false),[.dead])
 else
 J k148_j0 (s148_j0 i true ([Ins.mk i.op i.type_ i.to_ i.sym_ i.num i.args i.into]))
 else
 if (i.op == 18)=true then
 if decide (i.num<1)=false then
 if decide (i.num>16)=true then
 some (.v (.bool false),[.dead])
 else
 J k148_j0 (s148_j0 i false ([Ins.mk i.op i.type_ i.to_ i.sym_ i.num i.args i.into]))
 else
 some (.v (.bool false),[.dead])
 else
 J k148_j0 (s148_j0 i false ([Ins.mk i.op i.type_ i.to_ i.sym_ i.num i.args i.into]))
 else
 if (i.op == 26)=true then
 if decide ((↑i.args.length:Int)<1)=false then
 if ((↑i.into.length:Int) != (↑i.args.length:Int))=true then
 some (.v (.bool false),[.dead])
 else
 J k148_j0 (s148_j0 i false ([Ins.mk i.op i.type_ i.to_ i.sym_ i.num i.args i.into]))
 else
 some (.v (.bool false),[.dead])
 else
 if (i.op == 29)=true then
 if decide ((↑i.args.length:Int)>1)=true then
 some (.v (.bool false),[.dead])
 else
 J k148_j0 (s148_j0 i false ([Ins.mk i.op i.type_ i.to_ i.sym_ i.num i.args i.into]))
 else
 if (i.op == 25)=true then
 if decide ((↑i.args.length:Int)<1)=false then
 if decide ((↑i.args.length:Int)>6)=true then
 some (.v (.bool false),[.dead])
 else
 J k148_j0 (s148_j0 i true ([Ins.mk i.op i.type_ i.to_ i.sym_ i.num i.args i.into]))
 else
 some (.v (.bool false),[.dead])
 else
 if (i.op == 22)=true then
 if decide ((↑i.args.length:Int)>5)=true then
 some (.v (.bool false),[.dead])
 else
 J k148_j0 (s148_j0 i true ([Ins.mk i.op i.type_ i.to_ i.sym_ i.num i.args i.into]))
 else
 if (i.op == 23)=true then
 if decide ((↑i.args.length:Int)>5)=true then
 some (.v (.bool false),[.dead])
 else
 J k148_j0 (s148_j0 i true ([Ins.mk i.op i.type_ i.to_ i.sym_ i.num i.args i.into]))
 else
 if (i.op == 18)=true then
 if decide (i.num<1)=false then
 if decide (i.num>16)=true then
 some (.v (.bool false),[.dead])
 else
 J k148_j0 (s148_j0 i false ([Ins.mk i.op i.type_ i.to_ i.sym_ i.num i.args i.into]))
 else
 some (.v (.bool false),[.dead])
 else
 J k148_j0 (s148_j0 i false ([Ins.mk i.op i.type_ i.to_ i.sym_ i.num i.args i.into]))
 else
 some (.v (.bool false),[.dead])
 else
 some (.v (.bool false),[.dead])
 else
 some (.v (.bool false),[.dead]):=by kernel_rfl
theorem e148_j0 (J i v8 h0):run tb C148 U148 J (R148 i) 4096 k148_j0 (s148_j0 i v8 h0)=
 if ((h0.getD (0) (Ins.mk 0 0 0 0 0 [] [])).op == 21)=false then
 if (!v8)=true then
 if (!endsB (h0.getD (0) (Ins.mk 0 0 0 0 0 [] [])).op == ((h0.getD (0) (Ins.mk 0 0 0 0 0 [] [])).type_ == 0))=true then
 some (.v (.bool false),[.dead])
 else
 if ((h0.getD (0) (Ins.mk 0 0 0 0 0 [] [])).type_ == 0)=true then
 if ((h0.getD (0) (Ins.mk 0 0 0 0 0 [] [])).to_ == 0)=false then
 if ((h0.getD (0) (Ins.mk 0 0 0 0 0 [] [])).type_ != 0)=true then
 some (.v (.bool (decide ((h0.getD (0) (Ins.mk 0 0 0 0 0 [] [])).to_≥1))),[.dead])
 else
 some (.v (.bool false),[.dead])
 else
 some (.v (.bool true),[.dead])
 else
 if ((h0.getD (0) (Ins.mk 0 0 0 0 0 [] [])).type_ != 0)=true then
 some (.v (.bool (decide ((h0.getD (0) (Ins.mk 0 0 0 0 0 [] [])).to_≥1))),[.dead])
 else
 some (.v (.bool false),[.dead])
 else
 if ((h0.getD (0) (Ins.mk 0 0 0 0 0 [] [])).type_ == 0)=true then
 if ((h0.getD (0) (Ins.mk 0 0 0 0 0 [] [])).to_ == 0)=false then
 if ((h0.getD (0) (Ins.mk 0 0 0 0 0 [] [])).type_ != 0)=true then
 some (.v (.bool (decide ((h0.getD (0) (Ins.mk 0 0 0 0 0 [] [])).to_≥1))),[.dead])
 else
 some (.v (.bool false),[.dead])
 else
 some (.v (.bool true),[.dead])
 else
 if ((h0.getD (0) (Ins.mk 0 0 0 0 0 [] [])).type_ != 0)=true then
 some (.v (.bool (decide ((h0.getD (0) (Ins.mk 0 0 0 0 0 [] [])).to_≥1))),[.dead])
 else
 some (.v (.bool false),[.dead])
 else
 if (!v8)=true then
 if (!true == ((h0.getD (0) (Ins.mk 0 0 0 0 0 [] [])).type_ == 0))=true then
 some (.v (.bool false),[.dead])
 else
 if ((h0.getD (0) (Ins.mk 0 0 0 0 0 [] [])).type_ == 0)=true then
 if ((h0.getD (0) (Ins.mk 0 0 0 0 0 [] [])).to_ == 0)=false then
 if ((h0.getD (0) (Ins.mk 0 0 0 0 0 [] [])).type_ != 0)=true then
 some (.v (.bool (decide ((h0.getD (0) (Ins.mk 0 0 0 0 0 [] [])).to_≥1))),[.dead])
 else
 some (.v (.bool false),[.dead])
 else
 some (.v (.bool true),[.dead])
 else
 if ((h0.getD (0) (Ins.mk 0 0 0 0 0 [] [])).type_ != 0)=true then
 some (.v (.bool (decide ((h0.getD (0) (Ins.mk 0 0 0 0 0 [] [])).to_≥1))),[.dead])
 else
 some (.v (.bool false),[.dead])
 else
 if ((h0.getD (0) (Ins.mk 0 0 0 0 0 [] [])).type_ == 0)=true then
 if ((h0.getD (0) (Ins.mk 0 0 0 0 0 [] [])).to_ == 0)=false then
 if ((h0.getD (0) (Ins.mk 0 0 0 0 0 [] [])).type_ != 0)=true then
 some (.v (.bool (decide ((h0.getD (0) (Ins.mk 0 0 0 0 0 [] [])).to_≥1))),[.dead])
 else
 some (.v (.bool false),[.dead])
 else
 some (.v (.bool true),[.dead])
 else
 if ((h0.getD (0) (Ins.mk 0 0 0 0 0 [] [])).type_ != 0)=true then
 some (.v (.bool (decide ((h0.getD (0) (Ins.mk 0 0 0 0 0 [] [])).to_≥1))),[.dead])
 else
 some (.v (.bool false),[.dead]):=by kernel_rfl

theorem in148:Entered 148:=⟨Try.f148,b148,by kernel_rfl,by kernel_rfl,by kernel_rfl⟩
theorem fn148 (i:Ev.Ins) {res:AV Ty} {outs:List (AV Ty)} (h:Ends C148 U148 (R148 i) [.code b148] ⟨slotsA (a148 i) 0 0,heapA (a148 i)⟩ (some (res,outs))):CallOk tb Try.prog 148 (a148 i) res outs:=by
 obtain ⟨n0,hn⟩:=h
 exact fn_ok (C:=C148) (U:=U148) (n:=0+n0) (q:= .keep) tbOk good (fun f mu S h=>by
  unfold C148 at h
  simp only at h
  split at h
  ·cases h;exact ⟨in167,S167_ok⟩
  ·cases h;exact ⟨in150,S150_ok⟩
  ·cases h) mixed (fn:=Try.f148) (body:=b148) (by kernel_rfl) (by kernel_rfl) rfl rfl (by show 1≤150;omega) (hn 0)
theorem form_j0 (i:Ev.Ins) (v:Bool):Says C148 U148 (R148 i) rD k148_j0 (s148_j0 i v [i]) ((i.type_=0→i.to_=0)∧(i.type_≠0→1≤i.to_)):=by
 refine Says.of (fun J=>e148_j0 J i v [i]) ?_
 simp only [List.getD_cons_zero]
 repeat' first|refine tree_qt (fun _=> ?_) (fun _=> ?_)|refine tree_qf (fun _=> ?_) (fun _=> ?_)|refine tree_nt (fun _=> ?_) (fun _=> ?_)|refine tree_nf (fun _=> ?_) (fun _=> ?_)|refine tree_et (fun _=> ?_) (fun _=> ?_)|refine tree_ef (fun _=> ?_) (fun _=> ?_)|refine tree_dt (fun _=> ?_) (fun _=> ?_)|refine tree_df (fun _=> ?_) (fun _=> ?_)|refine tree_bt (fun _=> ?_) (fun _=> ?_)|refine tree_bf (fun _=> ?_) (fun _=> ?_)|refine tree_ite (fun _=> ?_) (fun _=> ?_)
 all_goals first|exact SaysF.no (fun J=>rfl)|exact SaysF.yes (fun J=>rfl) (by refine ⟨fun _=> ?_,fun _=> ?_⟩<;>omega)|exact SaysF.dec (fun J=>rfl) (fun _=>by refine ⟨fun _=> ?_,fun _=> ?_⟩<;>omega)
set_option maxHeartbeats 4000000 in
theorem form_says (i:Ev.Ins):Says C148 U148 (R148 i) rD [.code b148] ⟨slotsA (a148 i) 0 0,heapA (a148 i)⟩ (FormQ i):=by
 refine Says.of (fun J=>e148 J i) ?_
 repeat' first|refine tree_qt (fun _=> ?_) (fun _=> ?_)|refine tree_qf (fun _=> ?_) (fun _=> ?_)|refine tree_nt (fun _=> ?_) (fun _=> ?_)|refine tree_nf (fun _=> ?_) (fun _=> ?_)|refine tree_et (fun _=> ?_) (fun _=> ?_)|refine tree_ef (fun _=> ?_) (fun _=> ?_)|refine tree_dt (fun _=> ?_) (fun _=> ?_)|refine tree_df (fun _=> ?_) (fun _=> ?_)|refine tree_bt (fun _=> ?_) (fun _=> ?_)|refine tree_bf (fun _=> ?_) (fun _=> ?_)|refine tree_ite (fun _=> ?_) (fun _=> ?_)
 all_goals first|exact SaysF.no (fun J=>rfl)|(refine SaysF.go (fun J=>rfl) ((form_j0 i _).mono fun q=>⟨⟨?_,?_,?_,?_,fun _=> ?_,fun _=> ?_,fun _=>⟨?_,?_⟩,fun _=> ?_⟩,q⟩)<;>omega)
theorem form_ok (i:Ev.Ins): ∃b,Tells 148 (a148 i) [.dead] (FormQ i) b:=by
 obtain ⟨b,h,q⟩:=form_says i
 exact ⟨b,fn148 i h,q⟩
noncomputable def formB (i:Ev.Ins):Bool:=told 148 (a148 i) [.dead] (FormQ i)
noncomputable def S148:List (AV Ty)→T (AV Ty×List (AV Ty))
 |[.agg x]=>match cod46.dec false x with
  |some i=> .ret (.v (.bool (formB i)),[.dead])
  |none=> .fail
 |_=> .fail
theorem S148_ok (l:List (AV Ty)) (r:AV Ty) (outs:List (AV Ty)) (h:(S148 l).val=some (r,outs)):CallOk tb Try.prog 148 l r outs:=by
 unfold S148 at h
 split at h
 ·rename_i x
  split at h
  ·rename_i i e1
   cases h
   have h1:=cod46_ok.dec false x i e1
   subst h1
   exact (told_ok (form_ok i)).1
  ·cases h
 ·cases h
noncomputable def b168:Code:=bodyOf Try.f168
def C168:Cfg Ty:=⟨fun _=>none,fun _=>false,50,0⟩
def U168:Cuts:=⟨fun
 |0=>some []
 |_=>none,fun
 |0=>some [(0,none),(3,none)]
 |_=>none,fun _=>none⟩
noncomputable def k168_j0:List Item:=[.code (sndC (sndC (sndC b168)))]
noncomputable def k168_l0:List Item:=[.code (inC (inC (sndC (fstC (sndC (sndC b168)))))), .inLoop (inC (inC (sndC (fstC (sndC (sndC b168)))))), .inBlock 0, .code (sndC (sndC (sndC b168)))]
def a168 (s:ByteArray):List (AV Ty):=[.v (.string s)]
noncomputable def R168 (s:ByteArray):St Ty→EvR:=resT tb C168 Try.f168.results.toList .keep (a168 s)
def s168_l0 (s:ByteArray) (v3:Int):St Ty:=St.mk [(0, .v (.string s)),(3, .v (.int .i64 v3))] []
def s168_j0 (s:ByteArray):St Ty:=St.mk [] []
theorem e168 (J s):run tb C168 U168 J (R168 s) 4096 [.code b168] ⟨slotsA (a168 s) 0 0,heapA (a168 s)⟩=
 if decide ((↑s.size:Int)<1)=false then
 if decide ((↑s.size:Int)>12)=false then
 if 0<(↑s.size:Int) then
 if decide (btI s 0<97)=false then
 if 0<(↑s.size:Int) then
 if decide (btI s 0>122)=true then
 some (.v (.bool false),[.dead])
 else
 J k168_l0 (s168_l0 s 0)
 else none
 else
 some (.v (.bool false),[.dead])
 else none
 else
 some (.v (.bool false),[.dead])
 else
 some (.v (.bool false),[.dead]):=by kernel_rfl
theorem e168_l0 (J s v3):run tb C168 U168 J (R168 s) 4096 k168_l0 (s168_l0 s v3)=
 if decide (v3<(↑s.size:Int))=true then
 if 0≤v3 then
 if v3<(↑s.size:Int) then
 if decide (btI s v3<97)=false then
 if decide (btI s v3>122)=true then
 if decide (btI s v3<48)=false then
 if decide (btI s v3>57)=true then
 if (btI s v3 != 95)=true then
 some (.v (.bool false),[.dead])
 else
 J k168_l0 (s168_l0 s (IntKind.i64.wrap (v3+1)))
 else
 J k168_l0 (s168_l0 s (IntKind.i64.wrap (v3+1)))
 else
 if (btI s v3 != 95)=true then
 some (.v (.bool false),[.dead])
 else
 J k168_l0 (s168_l0 s (IntKind.i64.wrap (v3+1)))
 else
 J k168_l0 (s168_l0 s (IntKind.i64.wrap (v3+1)))
 else
 if decide (btI s v3<48)=false then
 if decide (btI s v3>57)=true then
 if (btI s v3 != 95)=true then
 some (.v (.bool false),[.dead])
 else
 J k168_l0 (s168_l0 s (IntKind.i64.wrap (v3+1)))
 else
 J k168_l0 (s168_l0 s (IntKind.i64.wrap (v3+1)))
 else
 if (btI s v3 != 95)=true then
 some (.v (.bool false),[.dead])
 else
 J k168_l0 (s168_l0 s (IntKind.i64.wrap (v3+1)))
 else none
 else none
 else
 J k168_j0 (s168_j0 s):=by kernel_rfl
theorem e168_j0 (J s):run tb C168 U168 J (R168 s) 4096 k168_j0 (s168_j0 s)=
 some (.v (.bool true),[.dead]):=by kernel_rfl

theorem in168:Entered 168:=⟨Try.f168,b168,by kernel_rfl,by kernel_rfl,by kernel_rfl⟩
theorem fn168 (s:ByteArray) {res:AV Ty} {outs:List (AV Ty)} (h:Ends C168 U168 (R168 s) [.code b168] ⟨slotsA (a168 s) 0 0,heapA (a168 s)⟩ (some (res,outs))):CallOk tb Try.prog 168 (a168 s) res outs:=by
 obtain ⟨n0,hn⟩:=h
 exact fn_ok (C:=C168) (U:=U168) (n:=0+n0) (q:= .keep) tbOk good (fun f mu S h=>by cases h) mixed (fn:=Try.f168) (body:=b168) (by kernel_rfl) (by kernel_rfl) rfl rfl (by show 1≤50;omega) (hn 0)
theorem name_says (s:ByteArray):Says C168 U168 (R168 s) rD [.code b168] ⟨slotsA (a168 s) 0 0,heapA (a168 s)⟩ True:=by
 refine (Way.says (k':=k168_l0) (s':=s168_l0 s (0:Nat)) (Q:=s.size≤12) (Q':=True) (Way.of (fun J=>e168 J s) ?_) fun hs=> ?_).mono fun _=>trivial
 ·repeat' first|refine tree_qt (fun _=> ?_) (fun _=> ?_)|refine tree_qf (fun _=> ?_) (fun _=> ?_)|refine tree_nt (fun _=> ?_) (fun _=> ?_)|refine tree_nf (fun _=> ?_) (fun _=> ?_)|refine tree_et (fun _=> ?_) (fun _=> ?_)|refine tree_ef (fun _=> ?_) (fun _=> ?_)|refine tree_dt (fun _=> ?_) (fun _=> ?_)|refine tree_df (fun _=> ?_) (fun _=> ?_)|refine tree_bt (fun _=> ?_) (fun _=> ?_)|refine tree_bf (fun _=> ?_) (fun _=> ?_)|refine tree_ite (fun _=> ?_) (fun _=> ?_)
  all_goals first|exact WayT.no (fun J=>rfl)|exact WayT.yes (fun J=>rfl) (by omega)|(exfalso;omega)
 refine (Way.says (k':=k168_l0) (s':=s168_l0 s s.size) (Q':=True) (Way.upto (fun i=>s168_l0 s i) s.size (fun _=>True) (fun i hi _=>Way.of (fun J=>e168_l0 J s i) ?_) _ (Nat.le_refl _)) fun _=> ?_).mono fun _=>trivial
 ·have w:IntKind.i64.wrap ((i:Int)+1)=((i+1:Nat):Int):=wrap_nat (by omega) (by omega)
  rw [w]
  repeat' first|refine tree_qt (fun _=> ?_) (fun _=> ?_)|refine tree_qf (fun _=> ?_) (fun _=> ?_)|refine tree_nt (fun _=> ?_) (fun _=> ?_)|refine tree_nf (fun _=> ?_) (fun _=> ?_)|refine tree_et (fun _=> ?_) (fun _=> ?_)|refine tree_ef (fun _=> ?_) (fun _=> ?_)|refine tree_dt (fun _=> ?_) (fun _=> ?_)|refine tree_df (fun _=> ?_) (fun _=> ?_)|refine tree_bt (fun _=> ?_) (fun _=> ?_)|refine tree_bf (fun _=> ?_) (fun _=> ?_)|refine tree_ite (fun _=> ?_) (fun _=> ?_)
  all_goals first|exact WayT.no (fun J=>rfl)|exact WayT.yes (fun J=>rfl) trivial|(exfalso;omega)
 refine Goes.says (k':=k168_j0) (s':=s168_j0 s) (.step fun J=> ?_) (.yes (.step fun J=>e168_j0 J s) trivial)
 rw [e168_l0]
 simp (disch:=first|omega|assumption|(rw [dT];omega)|(rw [dF];omega)) only [↓iP,↓iN,iT,iF,wrap_up,tN,Nat.zero_add]
theorem name_ok (s:ByteArray): ∃b,Tells 168 (a168 s) [.dead] True b:=by
 obtain ⟨b,h,_⟩:=name_says s
 exact ⟨b,fn168 s h,fun _=>trivial⟩
noncomputable def nameB (s:ByteArray):Bool:=told 168 (a168 s) [.dead] True
noncomputable def S168:List (AV Ty)→T (AV Ty×List (AV Ty))
 |[.v (.string s)]=> .ret (.v (.bool (nameB s)),[.dead])
 |_=> .fail
theorem S168_ok (l:List (AV Ty)) (r:AV Ty) (outs:List (AV Ty)) (h:(S168 l).val=some (r,outs)):CallOk tb Try.prog 168 l r outs:=by
 unfold S168 at h
 split at h
 ·cases h;exact (told_ok (name_ok _)).1
 ·cases h
noncomputable def b149:Code:=bodyOf Try.f149
noncomputable def C149:Cfg Ty:=⟨fun
 |168=>some ([],S168)
 |_=>none,fun
 |1000000=>true
 |_=>false,18,0⟩
def U149:Cuts:=⟨fun _=>none,fun _=>none,fun _=>none⟩
def a149 (kv:List (Value×Int)) (s:ByteArray):List (AV Ty):=[AV.mp none IntKind.i64 kv, .v (.string s)]
noncomputable def R149 (kv:List (Value×Int)) (s:ByteArray):St Ty→EvR:=resM tb Try.f149.results.toList
theorem e149 (J kv s):run tb C149 U149 J (R149 kv s) 4096 [.code b149] ⟨slotsA (a149 kv s) 0 0,heapA (a149 kv s)⟩=
 if (!nameB s)=false then
 if decide ((match mget (mput kv (.string s) (IntKind.i64.wrap ((match mget kv (.string s) with|some x=>x|none=>0)+1))) (.string s) with|some x=>x|none=>0)>1)=true then
 some (.v (.int .i64 1),[AV.mp none IntKind.i64 (mput kv (.string s) (IntKind.i64.wrap ((match mget kv (.string s) with|some x=>x|none=>0)+1)))])
 else
 some (.v (.int .i64 0),[AV.mp none IntKind.i64 (mput kv (.string s) (IntKind.i64.wrap ((match mget kv (.string s) with|some x=>x|none=>0)+1)))])
 else
 some (.v (.int .i64 1),[AV.mp none IntKind.i64 (mput kv (.string s) (IntKind.i64.wrap ((match mget kv (.string s) with|some x=>x|none=>0)+1)))]):=by kernel_rfl

theorem in149:Entered 149:=⟨Try.f149,b149,by kernel_rfl,by kernel_rfl,by kernel_rfl⟩
theorem fn149 (kv:List (Value×Int)) (s:ByteArray) {res:AV Ty} {outs:List (AV Ty)} (h:Ends C149 U149 (R149 kv s) [.code b149] ⟨slotsA (a149 kv s) 0 0,heapA (a149 kv s)⟩ (some (res,outs))) (hr: ∃x kv',res= .v x∧outs=[.mp none .i64 kv']):CallOk tb Try.prog 149 (a149 kv s) res outs:=by
 obtain ⟨n0,hn⟩:=h
 exact fn_map (C:=C149) (U:=U149) (n:=0+n0) tbOk good (fun f mu S h=>by
  unfold C149 at h
  simp only at h
  split at h
  ·cases h;exact ⟨in168,S168_ok⟩
  ·cases h) mixed (fn:=Try.f149) (body:=b149) (by kernel_rfl) (by kernel_rfl) rfl rfl (kd:=none) (q:= .i64) (kv:=kv) (xs:=[.string s]) rfl (by show 2≤18;omega) (hn 0) rfl hr
def AnsM (F:Jt→EvR):Prop:= ∃p:Int×List (Value×Int),∀J,F J=some (.v (.int .i64 p.1),[.mp none .i64 p.2])
theorem one_tree (kv:List (Value×Int)) (s:ByteArray):AnsM (fun J=>run tb C149 U149 J (R149 kv s) 4096 [.code b149] ⟨slotsA (a149 kv s) 0 0,heapA (a149 kv s)⟩):=by
 rw [show (fun J:Jt=>run tb C149 U149 J (R149 kv s) 4096 [.code b149] ⟨slotsA (a149 kv s) 0 0,heapA (a149 kv s)⟩)=_ from funext fun J=>e149 J kv s]
 repeat' first|refine tree_qt (fun _=> ?_) (fun _=> ?_)|refine tree_qf (fun _=> ?_) (fun _=> ?_)|refine tree_nt (fun _=> ?_) (fun _=> ?_)|refine tree_nf (fun _=> ?_) (fun _=> ?_)|refine tree_et (fun _=> ?_) (fun _=> ?_)|refine tree_ef (fun _=> ?_) (fun _=> ?_)|refine tree_dt (fun _=> ?_) (fun _=> ?_)|refine tree_df (fun _=> ?_) (fun _=> ?_)|refine tree_bt (fun _=> ?_) (fun _=> ?_)|refine tree_bf (fun _=> ?_) (fun _=> ?_)|refine tree_ite (fun _=> ?_) (fun _=> ?_)
 all_goals exact ⟨(_,_),fun J=>rfl⟩
theorem one_ex (kv:List (Value×Int)) (s:ByteArray): ∃p:Int×List (Value×Int),CallOk tb Try.prog 149 (a149 kv s) (.v (.int .i64 p.1)) [.mp none .i64 p.2]:=by
 obtain ⟨p,h⟩:=one_tree kv s
 exact ⟨p,fn149 kv s (.step h) ⟨_,_,rfl,rfl⟩⟩
noncomputable def oneI (kv:List (Value×Int)) (s:ByteArray):Int:=(Classical.choose (one_ex kv s)).1
noncomputable def oneM (kv:List (Value×Int)) (s:ByteArray):List (Value×Int):=(Classical.choose (one_ex kv s)).2
noncomputable def S149:List (AV Ty)→T (AV Ty×List (AV Ty))
 |[.mp none .i64 kv, .v (.string s)]=> .ret (.v (.int .i64 (oneI kv s)),[.mp none .i64 (oneM kv s)])
 |_=> .fail
theorem S149_ok (l:List (AV Ty)) (r:AV Ty) (outs:List (AV Ty)) (h:(S149 l).val=some (r,outs)):CallOk tb Try.prog 149 l r outs:=by
 unfold S149 at h
 split at h
 ·cases h;exact Classical.choose_spec (one_ex _ _)
 ·cases h
end Go.Proofs.Ytggibjbcbicpjaa.Ev
namespace Go.Proofs.Ytggibjbcbicpjaa.Ev
open Go
set_option linter.unusedVariables false
set_option linter.unusedSimpArgs false
def okM (m:Ev.Module):Prop:=(m.externs.length≤1000∧m.globals.length≤1000∧m.tables.length≤1000∧m.funcs.length≤1000)∧(∀x,x∈m.externs→x.params.length≤1000)∧(∀x,x∈m.globals→x.cells.length≤1000)∧(∀x,x∈m.tables→x.funcs.length≤1000)∧ ∀f,f∈m.funcs→okF f
instance okM.dec (m:Ev.Module):Decidable (okM m):=by unfold okM;infer_instance
theorem smallM.ok {m:Ev.Module} (h:smallM m):okM m:=by
 obtain ⟨⟨h1,h2,h3,h4⟩,h5,h6,h7,h8,_⟩:=h
 exact ⟨⟨by omega,by omega,by omega,by omega⟩,fun x hx=>by have:=(h5 x hx).2;omega,fun x hx=>by have:=(h6 x hx).2;omega,fun x hx=>by have:=(h7 x hx).2;omega,fun f hf=>(h8 f hf).ok⟩
end Go.Proofs.Ytggibjbcbicpjaa.Ev
namespace Go.Proofs.Ytggibjbcbicpjaa.Ev
open Go
set_option linter.unusedVariables false
set_option linter.unusedSimpArgs false
def FnQ (f:Ev.Func):Prop:= ∀b,b<f.blocks.length→ ∀k,k<(f.blocks.getD b (Block.mk [])).ins.length→FormQ ((f.blocks.getD b (Block.mk [])).ins.getD k (Ins.mk 0 0 0 0 0 [] []))
theorem formB_q {i:Ev.Ins} (h:formB i=true):FormQ i:=(told_ok (form_ok i)).2 h
theorem okM.x {m:Ev.Module} (h:okM m) {i:Nat} (hi:i<m.externs.length):(m.externs.getD i (Extern.mk ByteArray.empty [] 0)).params.length≤1000:=h.2.1 _ (getD_mem hi)
theorem okM.g {m:Ev.Module} (h:okM m) {i:Nat} (hi:i<m.globals.length):(m.globals.getD i (Global.mk ByteArray.empty [])).cells.length≤1000:=h.2.2.1 _ (getD_mem hi)
theorem okM.t {m:Ev.Module} (h:okM m) {i:Nat} (hi:i<m.tables.length):(m.tables.getD i (Table.mk ByteArray.empty [])).funcs.length≤1000:=h.2.2.2.1 _ (getD_mem hi)
theorem okM.f {m:Ev.Module} (h:okM m) {i:Nat} (hi:i<m.funcs.length):okF (m.funcs.getD i (Func.mk ByteArray.empty false [] 0 [])):=h.2.2.2.2 _ (getD_mem hi)
theorem okF.b {f:Ev.Func} (h:okF f) {b:Nat} (hb:b<f.blocks.length):(f.blocks.getD b (Block.mk [])).ins.length≤1000:=(h.2.2 _ (getD_mem hb)).1
noncomputable def b125:Code:=bodyOf Try.f125
noncomputable def C125:Cfg Ty:=⟨fun
 |148=>some ([],S148)
 |_=>none,fun _=>false,148,0⟩
def U125:Cuts:=⟨fun
 |0=>some [(1,none)]
 |1=>some [(1,none),(3,none)]
 |2=>some [(1,none),(3,none)]
 |4=>some []
 |5=>some [(1,none),(6,none)]
 |6=>some [(1,none),(6,none),(7,none)]
 |8=>some [(1,none),(6,none)]
 |9=>some [(1,none),(6,none),(7,none),(9,none)]
 |10=>some [(1,none),(6,none),(7,none),(9,none)]
 |_=>none,fun
 |0=>some [(1,none),(3,none)]
 |2=>some [(1,none),(3,none),(4,none),(5,none)]
 |4=>some [(1,none),(6,none)]
 |6=>some [(1,none),(6,none),(7,none),(8,none)]
 |8=>some [(1,none),(6,none),(7,none),(9,none)]
 |10=>some [(1,none),(6,none),(7,none),(9,none),(10,none)]
 |_=>none,fun _=>none⟩
noncomputable def k125_j0:List Item:=[.code (sndC (sndC b125))]
noncomputable def k125_l0:List Item:=[.code (inC (inC (sndC (fstC (sndC b125))))), .inLoop (inC (inC (sndC (fstC (sndC b125))))), .inBlock 0, .code (sndC (sndC b125))]
noncomputable def k125_j1:List Item:=[.code (sndC (sndC (inC (inC (sndC (fstC (sndC b125))))))), .inLoop (inC (inC (sndC (fstC (sndC b125))))), .inBlock 0, .code (sndC (sndC b125))]
noncomputable def k125_j2:List Item:=[.inBlock 1, .code (sndC (sndC (inC (inC (sndC (fstC (sndC b125))))))), .inLoop (inC (inC (sndC (fstC (sndC b125))))), .inBlock 0, .code (sndC (sndC b125))]
noncomputable def k125_l2:List Item:=[.code (inC (inC (sndC (sndC (sndC (inC (fstC (sndC (inC (inC (sndC (fstC (sndC b125))))))))))))), .inLoop (inC (inC (sndC (sndC (sndC (inC (fstC (sndC (inC (inC (sndC (fstC (sndC b125))))))))))))), .inBlock 2, .inBlock 1, .code (sndC (sndC (inC (inC (sndC (fstC (sndC b125))))))), .inLoop (inC (inC (sndC (fstC (sndC b125))))), .inBlock 0, .code (sndC (sndC b125))]
noncomputable def k125_j4:List Item:=[.code (sndC (sndC (sndC b125)))]
noncomputable def k125_l4:List Item:=[.code (inC (inC (sndC (fstC (sndC (sndC b125)))))), .inLoop (inC (inC (sndC (fstC (sndC (sndC b125)))))), .inBlock 4, .code (sndC (sndC (sndC b125)))]
noncomputable def k125_j5:List Item:=[.code (sndC (sndC (inC (inC (sndC (fstC (sndC (sndC b125)))))))), .inLoop (inC (inC (sndC (fstC (sndC (sndC b125)))))), .inBlock 4, .code (sndC (sndC (sndC b125)))]
noncomputable def k125_j6:List Item:=[.code (sndC (sndC (sndC (inC (fstC (sndC (inC (inC (sndC (fstC (sndC (sndC b125)))))))))))), .inBlock 5, .code (sndC (sndC (inC (inC (sndC (fstC (sndC (sndC b125)))))))), .inLoop (inC (inC (sndC (fstC (sndC (sndC b125)))))), .inBlock 4, .code (sndC (sndC (sndC b125)))]
noncomputable def k125_l6:List Item:=[.code (inC (inC (sndC (fstC (sndC (sndC (inC (fstC (sndC (inC (inC (sndC (fstC (sndC (sndC b125))))))))))))))), .inLoop (inC (inC (sndC (fstC (sndC (sndC (inC (fstC (sndC (inC (inC (sndC (fstC (sndC (sndC b125))))))))))))))), .inBlock 6, .code (sndC (sndC (sndC (inC (fstC (sndC (inC (inC (sndC (fstC (sndC (sndC b125)))))))))))), .inBlock 5, .code (sndC (sndC (inC (inC (sndC (fstC (sndC (sndC b125)))))))), .inLoop (inC (inC (sndC (fstC (sndC (sndC b125)))))), .inBlock 4, .code (sndC (sndC (sndC b125)))]
noncomputable def k125_j8:List Item:=[.inBlock 5, .code (sndC (sndC (inC (inC (sndC (fstC (sndC (sndC b125)))))))), .inLoop (inC (inC (sndC (fstC (sndC (sndC b125)))))), .inBlock 4, .code (sndC (sndC (sndC b125)))]
noncomputable def k125_l8:List Item:=[.code (inC (inC (sndC (sndC (sndC (sndC (inC (fstC (sndC (inC (inC (sndC (fstC (sndC (sndC b125))))))))))))))), .inLoop (inC (inC (sndC (sndC (sndC (sndC (inC (fstC (sndC (inC (inC (sndC (fstC (sndC (sndC b125))))))))))))))), .inBlock 8, .inBlock 5, .code (sndC (sndC (inC (inC (sndC (fstC (sndC (sndC b125)))))))), .inLoop (inC (inC (sndC (fstC (sndC (sndC b125)))))), .inBlock 4, .code (sndC (sndC (sndC b125)))]
noncomputable def k125_j9:List Item:=[.code (sndC (sndC (inC (inC (sndC (sndC (sndC (sndC (inC (fstC (sndC (inC (inC (sndC (fstC (sndC (sndC b125))))))))))))))))), .inLoop (inC (inC (sndC (sndC (sndC (sndC (inC (fstC (sndC (inC (inC (sndC (fstC (sndC (sndC b125))))))))))))))), .inBlock 8, .inBlock 5, .code (sndC (sndC (inC (inC (sndC (fstC (sndC (sndC b125)))))))), .inLoop (inC (inC (sndC (fstC (sndC (sndC b125)))))), .inBlock 4, .code (sndC (sndC (sndC b125)))]
noncomputable def k125_j10:List Item:=[.inBlock 9, .code (sndC (sndC (inC (inC (sndC (sndC (sndC (sndC (inC (fstC (sndC (inC (inC (sndC (fstC (sndC (sndC b125))))))))))))))))), .inLoop (inC (inC (sndC (sndC (sndC (sndC (inC (fstC (sndC (inC (inC (sndC (fstC (sndC (sndC b125))))))))))))))), .inBlock 8, .inBlock 5, .code (sndC (sndC (inC (inC (sndC (fstC (sndC (sndC b125)))))))), .inLoop (inC (inC (sndC (fstC (sndC (sndC b125)))))), .inBlock 4, .code (sndC (sndC (sndC b125)))]
noncomputable def k125_l10:List Item:=[.code (inC (inC (sndC (inC (fstC (sndC (inC (inC (sndC (sndC (sndC (sndC (inC (fstC (sndC (inC (inC (sndC (fstC (sndC (sndC b125))))))))))))))))))))), .inLoop (inC (inC (sndC (inC (fstC (sndC (inC (inC (sndC (sndC (sndC (sndC (inC (fstC (sndC (inC (inC (sndC (fstC (sndC (sndC b125))))))))))))))))))))), .inBlock 10, .inBlock 9, .code (sndC (sndC (inC (inC (sndC (sndC (sndC (sndC (inC (fstC (sndC (inC (inC (sndC (fstC (sndC (sndC b125))))))))))))))))), .inLoop (inC (inC (sndC (sndC (sndC (sndC (inC (fstC (sndC (inC (inC (sndC (fstC (sndC (sndC b125))))))))))))))), .inBlock 8, .inBlock 5, .code (sndC (sndC (inC (inC (sndC (fstC (sndC (sndC b125)))))))), .inLoop (inC (inC (sndC (fstC (sndC (sndC b125)))))), .inBlock 4, .code (sndC (sndC (sndC b125)))]
def a125 (m:Module):List (AV Ty):=[.agg [.sl false (91:Nat) m.externs, .sl false (94:Nat) m.globals, .sl false (96:Nat) m.tables, .sl false (33:Nat) m.funcs]]
noncomputable def R125 (m:Module):St Ty→EvR:=resT tb C125 Try.f125.results.toList .keep (a125 m)
def s125_l0 (m:Module) (v3:Int) (h0:List Module):St Ty:=St.mk [(1, .ptr (0) [] (0) (0)),(3, .v (.int .i64 v3))] [some (Root.mk (27) false h0)]
def s125_l2 (m:Module) (v3:Int) (v5:Int) (h0:List Module) (h1:List Extern):St Ty:=St.mk [(1, .ptr (0) [] (0) (0)),(3, .v (.int .i64 v3)),(4, .ptr (1) [] (0) (0)),(5, .v (.int .i64 v5))] [some (Root.mk (27) false h0),some (Root.mk (91) false h1)]
def s125_j0 (m:Module) (h0:List Module):St Ty:=St.mk [(1, .ptr (0) [] (0) (0))] [some (Root.mk (27) false h0)]
def s125_j2 (m:Module) (v3:Int) (h0:List Module):St Ty:=St.mk [(1, .ptr (0) [] (0) (0)),(3, .v (.int .i64 v3))] [some (Root.mk (27) false h0)]
def s125_l4 (m:Module) (v6:Int) (h0:List Module):St Ty:=St.mk [(1, .ptr (0) [] (0) (0)),(6, .v (.int .i64 v6))] [some (Root.mk (27) false h0)]
def s125_j1 (m:Module) (v3:Int) (h0:List Module):St Ty:=St.mk [(1, .ptr (0) [] (0) (0)),(3, .v (.int .i64 v3))] [some (Root.mk (27) false h0)]
def s125_l6 (m:Module) (v6:Int) (v8:Int) (h0:List Module) (h1:List Func):St Ty:=St.mk [(1, .ptr (0) [] (0) (0)),(6, .v (.int .i64 v6)),(7, .ptr (1) [] (0) (0)),(8, .v (.int .i64 v8))] [some (Root.mk (27) false h0),some (Root.mk (33) false h1)]
def s125_j4 (m:Module):St Ty:=St.mk [] []
def s125_j6 (m:Module) (v6:Int) (h0:List Module) (h1:List Func):St Ty:=St.mk [(1, .ptr (0) [] (0) (0)),(6, .v (.int .i64 v6)),(7, .ptr (1) [] (0) (0))] [some (Root.mk (27) false h0),some (Root.mk (33) false h1)]
def s125_l8 (m:Module) (v6:Int) (v9:Int) (h0:List Module) (h1:List Func):St Ty:=St.mk [(1, .ptr (0) [] (0) (0)),(6, .v (.int .i64 v6)),(7, .ptr (1) [] (0) (0)),(9, .v (.int .i64 v9))] [some (Root.mk (27) false h0),some (Root.mk (33) false h1)]
def s125_l10 (m:Module) (v6:Int) (v9:Int) (v10:Int) (h0:List Module) (h1:List Func):St Ty:=St.mk [(1, .ptr (0) [] (0) (0)),(6, .v (.int .i64 v6)),(7, .ptr (1) [] (0) (0)),(9, .v (.int .i64 v9)),(10, .v (.int .i64 v10))] [some (Root.mk (27) false h0),some (Root.mk (33) false h1)]
def s125_j8 (m:Module) (v6:Int) (h0:List Module):St Ty:=St.mk [(1, .ptr (0) [] (0) (0)),(6, .v (.int .i64 v6))] [some (Root.mk (27) false h0)]
def s125_j10 (m:Module) (v6:Int) (v9:Int) (h0:List Module) (h1:List Func):St Ty:=St.mk [(1, .ptr (0) [] (0) (0)),(6, .v (.int .i64 v6)),(7, .ptr (1) [] (0) (0)),(9, .v (.int .i64 v9))] [some (Root.mk (27) false h0),some (Root.mk (33) false h1)]
def s125_j5 (m:Module) (v6:Int) (h0:List Module):St Ty:=St.mk [(1, .ptr (0) [] (0) (0)),(6, .v (.int .i64 v6))] [some (Root.mk (27) false h0)]
def s125_j9 (m:Module) (v6:Int) (v9:Int) (h0:List Module) (h1:List Func):St Ty:=St.mk [(1, .ptr (0) [] (0) (0)),(6, .v (.int .i64 v6)),(7, .ptr (1) [] (0) (0)),(9, .v (.int .i64 v9))] [some (Root.mk (27) false h0),some (Root.mk (33) false h1)]
theorem e125 (J m):run tb C125 U125 J (R125 m) 4096 [.code b125] ⟨slotsA (a125 m) 0 0,heapA (a125 m)⟩=
 J k125_l0 (s125_l0 m 0 ([Module.mk m.externs m.globals m.tables m.funcs])):=by kernel_rfl
theorem e125_l0 (J m v3 h0):run tb C125 U125 J (R125 m) 4096 k125_l0 (s125_l0 m v3 h0)=
 if decide (v3<(↑(h0.getD (0) (Module.mk [] [] [] [])).externs.length:Int))=true then
 if 0≤v3 then
 if v3<(↑(h0.getD (0) (Module.mk [] [] [] [])).externs.length:Int) then
 if decide (((h0.getD (0) (Module.mk [] [] [] [])).externs.getD v3.toNat (Extern.mk ByteArray.empty [] 0)).result<0)=false then
 if decide (((h0.getD (0) (Module.mk [] [] [] [])).externs.getD v3.toNat (Extern.mk ByteArray.empty [] 0)).result>2)=true then
 some (.v (.bool false),[.dead])
 else
 J k125_l2 (s125_l2 m v3 0 h0 ([Extern.mk ((h0.getD (0) (Module.mk [] [] [] [])).externs.getD v3.toNat (Extern.mk ByteArray.empty [] 0)).name ((h0.getD (0) (Module.mk [] [] [] [])).externs.getD v3.toNat (Extern.mk ByteArray.empty [] 0)).params ((h0.getD (0) (Module.mk [] [] [] [])).externs.getD v3.toNat (Extern.mk ByteArray.empty [] 0)).result]))
 else
 some (.v (.bool false),[.dead])
 else none
 else none
 else
 J k125_j0 (s125_j0 m h0):=by kernel_rfl
theorem e125_l2 (J m v3 v5 h0 h1):run tb C125 U125 J (R125 m) 4096 k125_l2 (s125_l2 m v3 v5 h0 h1)=
 if decide (v5<(↑(h1.getD (0) (Extern.mk ByteArray.empty [] 0)).params.length:Int))=true then
 if 0≤v5 then
 if v5<(↑(h1.getD (0) (Extern.mk ByteArray.empty [] 0)).params.length:Int) then
 if ((h1.getD (0) (Extern.mk ByteArray.empty [] 0)).params.getD v5.toNat 0 != 1)=true then
 if 0≤v5 then
 if v5<(↑(h1.getD (0) (Extern.mk ByteArray.empty [] 0)).params.length:Int) then
 if ((h1.getD (0) (Extern.mk ByteArray.empty [] 0)).params.getD v5.toNat 0 != 2)=true then
 some (.v (.bool false),[.dead])
 else
 J k125_l2 (s125_l2 m v3 (IntKind.i64.wrap (v5+1)) h0 h1)
 else none
 else none
 else
 J k125_l2 (s125_l2 m v3 (IntKind.i64.wrap (v5+1)) h0 h1)
 else none
 else none
 else
 J k125_j2 (s125_j2 m v3 h0):=by kernel_rfl
theorem e125_j0 (J m h0):run tb C125 U125 J (R125 m) 4096 k125_j0 (s125_j0 m h0)=
 J k125_l4 (s125_l4 m 0 h0):=by kernel_rfl
theorem e125_j2 (J m v3 h0):run tb C125 U125 J (R125 m) 4096 k125_j2 (s125_j2 m v3 h0)=
 J k125_j1 (s125_j1 m v3 h0):=by kernel_rfl
theorem e125_l4 (J m v6 h0):run tb C125 U125 J (R125 m) 4096 k125_l4 (s125_l4 m v6 h0)=
 if decide (v6<(↑(h0.getD (0) (Module.mk [] [] [] [])).funcs.length:Int))=true then
 if 0≤v6 then
 if v6<(↑(h0.getD (0) (Module.mk [] [] [] [])).funcs.length:Int) then
 if decide (((h0.getD (0) (Module.mk [] [] [] [])).funcs.getD v6.toNat (Func.mk ByteArray.empty false [] 0 [])).result<0)=false then
 if decide (((h0.getD (0) (Module.mk [] [] [] [])).funcs.getD v6.toNat (Func.mk ByteArray.empty false [] 0 [])).result>4)=false then
 if (((h0.getD (0) (Module.mk [] [] [] [])).funcs.getD v6.toNat (Func.mk ByteArray.empty false [] 0 [])).result == 3)=false then
 if ((h0.getD (0) (Module.mk [] [] [] [])).funcs.getD v6.toNat (Func.mk ByteArray.empty false [] 0 [])).out=true then
 if decide (((h0.getD (0) (Module.mk [] [] [] [])).funcs.getD v6.toNat (Func.mk ByteArray.empty false [] 0 [])).result>2)=true then
 some (.v (.bool false),[.dead])
 else
 J k125_l6 (s125_l6 m v6 0 h0 ([Func.mk ((h0.getD (0) (Module.mk [] [] [] [])).funcs.getD v6.toNat (Func.mk ByteArray.empty false [] 0 [])).name ((h0.getD (0) (Module.mk [] [] [] [])).funcs.getD v6.toNat (Func.mk ByteArray.empty false [] 0 [])).out ((h0.getD (0) (Module.mk [] [] [] [])).funcs.getD v6.toNat (Func.mk ByteArray.empty false [] 0 [])).params ((h0.getD (0) (Module.mk [] [] [] [])).funcs.getD v6.toNat (Func.mk ByteArray.empty false [] 0 [])).result ((h0.getD (0) (Module.mk [] [] [] [])).funcs.getD v6.toNat (Func.mk ByteArray.empty false [] 0 [])).blocks]))
 else
 J k125_l6 (s125_l6 m v6 0 h0 ([Func.mk ((h0.getD (0) (Module.mk [] [] [] [])).funcs.getD v6.toNat (Func.mk ByteArray.empty false [] 0 [])).name ((h0.getD (0) (Module.mk [] [] [] [])).funcs.getD v6.toNat (Func.mk ByteArray.empty false [] 0 [])).out ((h0.getD (0) (Module.mk [] [] [] [])).funcs.getD v6.toNat (Func.mk ByteArray.empty false [] 0 [])).params ((h0.getD (0) (Module.mk [] [] [] [])).funcs.getD v6.toNat (Func.mk ByteArray.empty false [] 0 [])).result ((h0.getD (0) (Module.mk [] [] [] [])).funcs.getD v6.toNat (Func.mk ByteArray.empty false [] 0 [])).blocks]))
 else
 some (.v (.bool false),[.dead])
 else
 some (.v (.bool false),[.dead])
 else
 some (.v (.bool false),[.dead])
 else none
 else none
 else
 J k125_j4 (s125_j4 m):=by kernel_rfl
theorem e125_j1 (J m v3 h0):run tb C125 U125 J (R125 m) 4096 k125_j1 (s125_j1 m v3 h0)=
 J k125_l0 (s125_l0 m (IntKind.i64.wrap (v3+1)) h0):=by kernel_rfl
theorem e125_l6 (J m v6 v8 h0 h1):run tb C125 U125 J (R125 m) 4096 k125_l6 (s125_l6 m v6 v8 h0 h1)=
 if decide (v8<(↑(h1.getD (0) (Func.mk ByteArray.empty false [] 0 [])).params.length:Int))=true then
 if 0≤v8 then
 if v8<(↑(h1.getD (0) (Func.mk ByteArray.empty false [] 0 [])).params.length:Int) then
 if decide ((h1.getD (0) (Func.mk ByteArray.empty false [] 0 [])).params.getD v8.toNat 0<1)=false then
 if 0≤v8 then
 if v8<(↑(h1.getD (0) (Func.mk ByteArray.empty false [] 0 [])).params.length:Int) then
 if decide ((h1.getD (0) (Func.mk ByteArray.empty false [] 0 [])).params.getD v8.toNat 0>4)=false then
 if (h1.getD (0) (Func.mk ByteArray.empty false [] 0 [])).out=true then
 if 0≤v8 then
 if v8<(↑(h1.getD (0) (Func.mk ByteArray.empty false [] 0 [])).params.length:Int) then
 if decide ((h1.getD (0) (Func.mk ByteArray.empty false [] 0 [])).params.getD v8.toNat 0>2)=true then
 some (.v (.bool false),[.dead])
 else
 J k125_l6 (s125_l6 m v6 (IntKind.i64.wrap (v8+1)) h0 h1)
 else none
 else none
 else
 J k125_l6 (s125_l6 m v6 (IntKind.i64.wrap (v8+1)) h0 h1)
 else
 some (.v (.bool false),[.dead])
 else none
 else none
 else
 some (.v (.bool false),[.dead])
 else none
 else none
 else
 J k125_j6 (s125_j6 m v6 h0 h1):=by kernel_rfl
theorem e125_j4 (J m):run tb C125 U125 J (R125 m) 4096 k125_j4 (s125_j4 m)=
 some (.v (.bool true),[.dead]):=by kernel_rfl
theorem e125_j6 (J m v6 h0 h1):run tb C125 U125 J (R125 m) 4096 k125_j6 (s125_j6 m v6 h0 h1)=
 J k125_l8 (s125_l8 m v6 0 h0 h1):=by kernel_rfl
theorem e125_l8 (J m v6 v9 h0 h1):run tb C125 U125 J (R125 m) 4096 k125_l8 (s125_l8 m v6 v9 h0 h1)=
 if decide (v9<(↑(h1.getD (0) (Func.mk ByteArray.empty false [] 0 [])).blocks.length:Int))=true then
 J k125_l10 (s125_l10 m v6 v9 0 h0 h1)
 else
 J k125_j8 (s125_j8 m v6 h0):=by kernel_rfl
theorem e125_l10 (J m v6 v9 v10 h0 h1):run tb C125 U125 J (R125 m) 4096 k125_l10 (s125_l10 m v6 v9 v10 h0 h1)=
 if 0≤v9 then
 if v9<(↑(h1.getD (0) (Func.mk ByteArray.empty false [] 0 [])).blocks.length:Int) then
 if decide (v10<(↑((h1.getD (0) (Func.mk ByteArray.empty false [] 0 [])).blocks.getD v9.toNat (Block.mk [])).ins.length:Int))=true then
 if 0≤v9 then
 if v9<(↑(h1.getD (0) (Func.mk ByteArray.empty false [] 0 [])).blocks.length:Int) then
 if 0≤v10 then
 if v10<(↑((h1.getD (0) (Func.mk ByteArray.empty false [] 0 [])).blocks.getD v9.toNat (Block.mk [])).ins.length:Int) then
 if (!formB (Ins.mk (((h1.getD (0) (Func.mk ByteArray.empty false [] 0 [])).blocks.getD v9.toNat (Block.mk [])).ins.getD v10.toNat (Ins.mk 0 0 0 0 0 [] [])).op (((h1.getD (0) (Func.mk ByteArray.empty false [] 0 [])).blocks.getD v9.toNat (Block.mk [])).ins.getD v10.toNat (Ins.mk 0 0 0 0 0 [] [])).type_ (((h1.getD (0) (Func.mk ByteArray.empty false [] 0 [])).blocks.getD v9.toNat (Block.mk [])).ins.getD v10.toNat (Ins.mk 0 0 0 0 0 [] [])).to_ (((h1.getD (0) (Func.mk ByteArray.empty false [] 0 [])).blocks.getD v9.toNat (Block.mk [])).ins.getD v10.toNat (Ins.mk 0 0 0 0 0 [] [])).sym_ (((h1.getD (0) (Func.mk ByteArray.empty false [] 0 [])).blocks.getD v9.toNat (Block.mk [])).ins.getD v10.toNat (Ins.mk 0 0 0 0 0 [] [])).num (((h1.getD (0) (Func.mk ByteArray.empty false [] 0 [])).blocks.getD v9.toNat (Block.mk [])).ins.getD v10.toNat (Ins.mk 0 0 0 0 0 [] [])).args (((h1.getD (0) (Func.mk ByteArray.empty false [] 0 [])).blocks.getD v9.toNat (Block.mk [])).ins.getD v10.toNat (Ins.mk 0 0 0 0 0 [] [])).into))=true then
 some (.v (.bool false),[.dead])
 else
 J k125_l10 (s125_l10 m v6 v9 (IntKind.i64.wrap (v10+1)) h0 h1)
 else none
 else none
 else none
 else none
 else
 J k125_j10 (s125_j10 m v6 v9 h0 h1)
 else none
 else none:=by kernel_rfl
theorem e125_j8 (J m v6 h0):run tb C125 U125 J (R125 m) 4096 k125_j8 (s125_j8 m v6 h0)=
 J k125_j5 (s125_j5 m v6 h0):=by kernel_rfl
theorem e125_j10 (J m v6 v9 h0 h1):run tb C125 U125 J (R125 m) 4096 k125_j10 (s125_j10 m v6 v9 h0 h1)=
 J k125_j9 (s125_j9 m v6 v9 h0 h1):=by kernel_rfl
theorem e125_j5 (J m v6 h0):run tb C125 U125 J (R125 m) 4096 k125_j5 (s125_j5 m v6 h0)=
 J k125_l4 (s125_l4 m (IntKind.i64.wrap (v6+1)) h0):=by kernel_rfl
theorem e125_j9 (J m v6 v9 h0 h1):run tb C125 U125 J (R125 m) 4096 k125_j9 (s125_j9 m v6 v9 h0 h1)=
 J k125_l8 (s125_l8 m v6 (IntKind.i64.wrap (v9+1)) h0 h1):=by kernel_rfl

theorem in125:Entered 125:=⟨Try.f125,b125,by kernel_rfl,by kernel_rfl,by kernel_rfl⟩
theorem fn125 (m:Ev.Module) {res:AV Ty} {outs:List (AV Ty)} (h:Ends C125 U125 (R125 m) [.code b125] ⟨slotsA (a125 m) 0 0,heapA (a125 m)⟩ (some (res,outs))):CallOk tb Try.prog 125 (a125 m) res outs:=by
 obtain ⟨n0,hn⟩:=h
 exact fn_ok (C:=C125) (U:=U125) (n:=0+n0) (q:= .keep) tbOk good (fun f mu S h=>by
  unfold C125 at h
  simp only at h
  split at h
  ·cases h;exact ⟨in148,S148_ok⟩
  ·cases h) mixed (fn:=Try.f125) (body:=b125) (by kernel_rfl) (by kernel_rfl) rfl rfl (by show 1≤148;omega) (hn 0)
section
variable {m:Ev.Module}
theorem Forms.xp {x:Ev.Extern} (hx:x.params.length≤1000) {i j:Nat} (hj:j<x.params.length):Way C125 U125 (R125 m) (rD false) k125_l2 (s125_l2 m i j [m] [x]) k125_l2 (s125_l2 m i (j+1:Nat) [m] [x]) True:=by
 refine Way.of (fun J=>e125_l2 J m i j [m] [x]) ?_
 have w:IntKind.i64.wrap ((j:Int)+1)=((j+1:Nat):Int):=wrap_nat (by omega) (by omega)
 simp only [List.getD_cons_zero,Int.toNat_natCast,w]
 repeat' first|refine tree_qt (fun _=> ?_) (fun _=> ?_)|refine tree_qf (fun _=> ?_) (fun _=> ?_)|refine tree_nt (fun _=> ?_) (fun _=> ?_)|refine tree_nf (fun _=> ?_) (fun _=> ?_)|refine tree_et (fun _=> ?_) (fun _=> ?_)|refine tree_ef (fun _=> ?_) (fun _=> ?_)|refine tree_dt (fun _=> ?_) (fun _=> ?_)|refine tree_df (fun _=> ?_) (fun _=> ?_)|refine tree_bt (fun _=> ?_) (fun _=> ?_)|refine tree_bf (fun _=> ?_) (fun _=> ?_)|refine tree_ite (fun _=> ?_) (fun _=> ?_)
 all_goals first|exact WayT.no (fun J=>rfl)|exact WayT.yes (fun J=>rfl) (trivial)|(exfalso;omega)
theorem Forms.x (h:okM m) {i:Nat} (hi:i<m.externs.length):Way C125 U125 (R125 m) (rD false) k125_l0 (s125_l0 m i [m]) k125_l0 (s125_l0 m (i+1:Nat) [m]) True:=by
 have hl:=h.1.1
 have hx:=h.x hi
 refine (Way.trans (k':=k125_l2) (s':=s125_l2 m i (0:Nat) [m] [m.externs.getD i (Extern.mk ByteArray.empty [] 0)]) (Q:=True) (Q':=True) ?_ fun _=> ?_).mono fun _=>trivial
 ·refine Way.of (fun J=>e125_l0 J m i [m]) ?_
  simp only [List.getD_cons_zero,Int.toNat_natCast]
  repeat' first|refine tree_qt (fun _=> ?_) (fun _=> ?_)|refine tree_qf (fun _=> ?_) (fun _=> ?_)|refine tree_nt (fun _=> ?_) (fun _=> ?_)|refine tree_nf (fun _=> ?_) (fun _=> ?_)|refine tree_et (fun _=> ?_) (fun _=> ?_)|refine tree_ef (fun _=> ?_) (fun _=> ?_)|refine tree_dt (fun _=> ?_) (fun _=> ?_)|refine tree_df (fun _=> ?_) (fun _=> ?_)|refine tree_bt (fun _=> ?_) (fun _=> ?_)|refine tree_bf (fun _=> ?_) (fun _=> ?_)|refine tree_ite (fun _=> ?_) (fun _=> ?_)
  all_goals first|exact WayT.no (fun J=>rfl)|exact WayT.yes (fun J=>rfl) (trivial)|(exfalso;omega)
 refine ((Way.upto (fun j=>s125_l2 m i j [m] [m.externs.getD i (Extern.mk ByteArray.empty [] 0)]) _ (fun _=>True) (fun j hj _=>Forms.xp hx hj) _ (Nat.le_refl _)).mono fun _=>trivial).then fun _=> ?_
 refine Goes.trans (k':=k125_j2) (s':=s125_j2 m i [m]) (.step fun J=> ?_) (.trans (.step fun J=>e125_j2 ..) (.step fun J=> ?_))
 ·rw [e125_l2]
  simp only [List.getD_cons_zero,Int.toNat_natCast]
  simp (disch:=first|omega|assumption|(rw [dT];omega)|(rw [dF];omega)) only [↓iP,↓iN,iT,iF,wrap_up,tN,Nat.zero_add]
 ·rw [e125_j1,wrap_nat (n:=i+1) (by omega) (by omega)]
theorem Forms.fp {f:Ev.Func} (hf:f.params.length≤1000) {i j:Nat} (hj:j<f.params.length):Way C125 U125 (R125 m) (rD false) k125_l6 (s125_l6 m i j [m] [f]) k125_l6 (s125_l6 m i (j+1:Nat) [m] [f]) True:=by
 refine Way.of (fun J=>e125_l6 J m i j [m] [f]) ?_
 have w:IntKind.i64.wrap ((j:Int)+1)=((j+1:Nat):Int):=wrap_nat (by omega) (by omega)
 simp only [List.getD_cons_zero,Int.toNat_natCast,w]
 repeat' first|refine tree_qt (fun _=> ?_) (fun _=> ?_)|refine tree_qf (fun _=> ?_) (fun _=> ?_)|refine tree_nt (fun _=> ?_) (fun _=> ?_)|refine tree_nf (fun _=> ?_) (fun _=> ?_)|refine tree_et (fun _=> ?_) (fun _=> ?_)|refine tree_ef (fun _=> ?_) (fun _=> ?_)|refine tree_dt (fun _=> ?_) (fun _=> ?_)|refine tree_df (fun _=> ?_) (fun _=> ?_)|refine tree_bt (fun _=> ?_) (fun _=> ?_)|refine tree_bf (fun _=> ?_) (fun _=> ?_)|refine tree_ite (fun _=> ?_) (fun _=> ?_)
 all_goals first|exact WayT.no (fun J=>rfl)|exact WayT.yes (fun J=>rfl) (trivial)|(exfalso;omega)
theorem Forms.fi {f:Ev.Func} (hf:okF f) {i b k:Nat} (hb:b<f.blocks.length) (hk:k<(f.blocks.getD b (Block.mk [])).ins.length):Way C125 U125 (R125 m) (rD false) k125_l10 (s125_l10 m i b k [m] [f]) k125_l10 (s125_l10 m i b (k+1:Nat) [m] [f]) (FormQ ((f.blocks.getD b (Block.mk [])).ins.getD k (Ins.mk 0 0 0 0 0 [] []))):=by
 have h1:=hf.b hb
 refine Way.of (fun J=>e125_l10 J m i b k [m] [f]) ?_
 have w:IntKind.i64.wrap ((k:Int)+1)=((k+1:Nat):Int):=wrap_nat (by omega) (by omega)
 simp only [List.getD_cons_zero,Int.toNat_natCast,w]
 repeat' first|refine tree_qt (fun _=> ?_) (fun _=> ?_)|refine tree_qf (fun _=> ?_) (fun _=> ?_)|refine tree_nt (fun _=> ?_) (fun _=> ?_)|refine tree_nf (fun _=> ?_) (fun _=> ?_)|refine tree_et (fun _=> ?_) (fun _=> ?_)|refine tree_ef (fun _=> ?_) (fun _=> ?_)|refine tree_dt (fun _=> ?_) (fun _=> ?_)|refine tree_df (fun _=> ?_) (fun _=> ?_)|refine tree_bt (fun _=> ?_) (fun _=> ?_)|refine tree_bf (fun _=> ?_) (fun _=> ?_)|refine tree_ite (fun _=> ?_) (fun _=> ?_)
 all_goals first|exact WayT.no (fun J=>rfl)|exact WayT.yes (fun J=>rfl) (formB_q ‹_›)|(exfalso;omega)
theorem Forms.fb {f:Ev.Func} (hf:okF f) {i b:Nat} (hb:b<f.blocks.length):Way C125 U125 (R125 m) (rD false) k125_l8 (s125_l8 m i b [m] [f]) k125_l8 (s125_l8 m i (b+1:Nat) [m] [f]) (∀k,k<(f.blocks.getD b (Block.mk [])).ins.length→FormQ ((f.blocks.getD b (Block.mk [])).ins.getD k (Ins.mk 0 0 0 0 0 [] []))):=by
 have h0:=hf.2.1
 refine Goes.way (k':=k125_l10) (s':=s125_l10 m i b (0:Nat) [m] [f]) (.step fun J=> ?_) ?_
 ·rw [e125_l8]
  simp only [List.getD_cons_zero,Int.toNat_natCast]
  simp (disch:=first|omega|assumption|(rw [dT];omega)|(rw [dF];omega)) only [↓iP,↓iN,iT,iF,wrap_up,tN,Nat.zero_add]
  rfl
 refine (Way.upto (fun k=>s125_l10 m i b k [m] [f]) _ _ (fun k hk _=>Forms.fi hf hb hk) _ (Nat.le_refl _)).then fun _=> ?_
 refine Goes.trans (k':=k125_j10) (s':=s125_j10 m i b [m] [f]) (.step fun J=> ?_) (.trans (.step fun J=>e125_j10 ..) (.step fun J=> ?_))
 ·rw [e125_l10]
  simp only [List.getD_cons_zero,Int.toNat_natCast]
  simp (disch:=first|omega|assumption|(rw [dT];omega)|(rw [dF];omega)) only [↓iP,↓iN,iT,iF,wrap_up,tN,Nat.zero_add]
 ·rw [e125_j9,wrap_nat (n:=b+1) (by omega) (by omega)]
theorem Forms.f (h:okM m) {i:Nat} (hi:i<m.funcs.length):Way C125 U125 (R125 m) (rD false) k125_l4 (s125_l4 m i [m]) k125_l4 (s125_l4 m (i+1:Nat) [m]) (FnQ (m.funcs.getD i (Func.mk ByteArray.empty false [] 0 []))):=by
 have hl:=h.1.2.2.2
 have hf:=h.f hi
 refine (Way.trans (k':=k125_l6) (s':=s125_l6 m i (0:Nat) [m] [m.funcs.getD i (Func.mk ByteArray.empty false [] 0 [])]) (Q:=True) (Q':=True∧FnQ (m.funcs.getD i (Func.mk ByteArray.empty false [] 0 []))) ?_ fun _=> ?_).mono fun q=>q.2.2
 ·refine Way.of (fun J=>e125_l4 J m i [m]) ?_
  simp only [List.getD_cons_zero,Int.toNat_natCast]
  repeat' first|refine tree_qt (fun _=> ?_) (fun _=> ?_)|refine tree_qf (fun _=> ?_) (fun _=> ?_)|refine tree_nt (fun _=> ?_) (fun _=> ?_)|refine tree_nf (fun _=> ?_) (fun _=> ?_)|refine tree_et (fun _=> ?_) (fun _=> ?_)|refine tree_ef (fun _=> ?_) (fun _=> ?_)|refine tree_dt (fun _=> ?_) (fun _=> ?_)|refine tree_df (fun _=> ?_) (fun _=> ?_)|refine tree_bt (fun _=> ?_) (fun _=> ?_)|refine tree_bf (fun _=> ?_) (fun _=> ?_)|refine tree_ite (fun _=> ?_) (fun _=> ?_)
  all_goals first|exact WayT.no (fun J=>rfl)|exact WayT.yes (fun J=>rfl) (trivial)|(exfalso;omega)
 refine Way.trans (k':=k125_l8) (s':=s125_l8 m i (0:Nat) [m] [m.funcs.getD i (Func.mk ByteArray.empty false [] 0 [])]) (((Way.upto (fun j=>s125_l6 m i j [m] [m.funcs.getD i (Func.mk ByteArray.empty false [] 0 [])]) _ (fun _=>True) (fun j hj _=>Forms.fp hf.1 hj) _ (Nat.le_refl _)).mono fun _=>trivial).then fun _=> ?_) fun _=> ?_
 ·refine Goes.trans (k':=k125_j6) (s':=s125_j6 m i [m] [m.funcs.getD i (Func.mk ByteArray.empty false [] 0 [])]) (.step fun J=> ?_) (.step fun J=>e125_j6 ..)
  rw [e125_l6]
  simp only [List.getD_cons_zero,Int.toNat_natCast]
  simp (disch:=first|omega|assumption|(rw [dT];omega)|(rw [dF];omega)) only [↓iP,↓iN,iT,iF,wrap_up,tN,Nat.zero_add]
 refine (Way.upto (fun b=>s125_l8 m i b [m] [m.funcs.getD i (Func.mk ByteArray.empty false [] 0 [])]) _ _ (fun b hb _=>Forms.fb hf hb) _ (Nat.le_refl _)).then fun _=> ?_
 refine Goes.trans (k':=k125_j8) (s':=s125_j8 m i [m]) (.step fun J=> ?_) (.trans (.step fun J=>e125_j8 ..) (.step fun J=> ?_))
 ·rw [e125_l8]
  simp only [List.getD_cons_zero,Int.toNat_natCast]
  simp (disch:=first|omega|assumption|(rw [dT];omega)|(rw [dF];omega)) only [↓iP,↓iN,iT,iF,wrap_up,tN,Nat.zero_add]
 ·rw [e125_j5,wrap_nat (n:=i+1) (by omega) (by omega)]
end
def FormsQ (m:Ev.Module):Prop:= ∀i,i<m.funcs.length→FnQ (m.funcs.getD i (Func.mk ByteArray.empty false [] 0 []))
theorem forms_ok (m:Ev.Module) (h:okM m): ∃b,Tells 125 (a125 m) [.dead] (FormsQ m) b:=by
 have:Says C125 U125 (R125 m) rD [.code b125] ⟨slotsA (a125 m) 0 0,heapA (a125 m)⟩ (FormsQ m):=by
  refine Goes.says (k':=k125_l0) (s':=s125_l0 m (0:Nat) [m]) (.step fun J=>e125 ..) ?_
  refine (Way.says (Q':=FormsQ m) ((Way.upto (fun i=>s125_l0 m i [m]) _ (fun _=>True) (fun i hi _=>Forms.x h hi) _ (Nat.le_refl _)).mono fun _=>trivial) fun _=> ?_).mono fun q=>q.2
  refine Goes.says (k':=k125_l4) (s':=s125_l4 m (0:Nat) [m]) (.trans (k':=k125_j0) (s':=s125_j0 m [m]) (.step fun J=> ?_) (.step fun J=>e125_j0 ..)) ?_
  ·rw [e125_l0]
   simp only [List.getD_cons_zero,Int.toNat_natCast]
   simp (disch:=first|omega|assumption|(rw [dT];omega)|(rw [dF];omega)) only [↓iP,↓iN,iT,iF,wrap_up,tN,Nat.zero_add]
  refine (Way.says (Q':=True) (Way.upto (fun i=>s125_l4 m i [m]) _ _ (fun i hi _=>Forms.f h hi) _ (Nat.le_refl _)) fun _=> ?_).mono fun q=>q.1
  refine Goes.says (k':=k125_j4) (s':=s125_j4 m) (.step fun J=> ?_) (.yes (.step fun J=>e125_j4 ..) trivial)
  rw [e125_l4]
  simp only [List.getD_cons_zero,Int.toNat_natCast]
  simp (disch:=first|omega|assumption|(rw [dT];omega)|(rw [dF];omega)) only [↓iP,↓iN,iT,iF,wrap_up,tN,Nat.zero_add]
 obtain ⟨b,h1,h2⟩:=this
 exact ⟨b,fn125 m h1,h2⟩
end Go.Proofs.Ytggibjbcbicpjaa.Ev
namespace Go.Proofs.Ytggibjbcbicpjaa.Ev
open Go
set_option linter.unusedVariables false
set_option linter.unusedSimpArgs false
def lastB (f:Ev.Func) (b:Int):Bool:=decide (0≤b∧b<f.blocks.length∧0<(f.blocks.getD b.toNat (Block.mk [])).ins.length)
def lastI (f:Ev.Func) (b:Int):Ev.Ins:=match lastB f b with
 |true=>(f.blocks.getD b.toNat (Block.mk [])).ins.getD ((f.blocks.getD b.toNat (Block.mk [])).ins.length-1) (Ins.mk 0 0 0 0 0 [] [])
 |false=>(Ins.mk 0 0 0 0 0 [] [])
noncomputable def b180:Code:=bodyOf Try.f180
def C180:Cfg Ty:=⟨fun _=>none,fun _=>false,39,0⟩
def U180:Cuts:=⟨fun _=>none,fun _=>none,fun _=>none⟩
def a180 (f:Func) (b:Int):List (AV Ty):=[.agg [.v (.string f.name), .v (.bool f.out), .sl false (3:Nat) f.params, .v (.int .i64 f.result), .sl false (44:Nat) f.blocks], .v (.int .i64 b)]
noncomputable def R180 (f:Func) (b:Int):St Ty→EvR:=resT tb C180 Try.f180.results.toList .keep (a180 f b)
theorem e180 (J f b):run tb C180 U180 J (R180 f b) 4096 [.code b180] ⟨slotsA (a180 f b) 0 0,heapA (a180 f b)⟩=
 if decide (b<0)=false then
 if decide (b≥(↑f.blocks.length:Int))=false then
 if 0≤b then
 if b<(↑f.blocks.length:Int) then
 if ((↑(f.blocks.getD b.toNat (Block.mk [])).ins.length:Int) == 0)=true then
 some (.tup [.agg [.v (.int .i64 0), .v (.int .i64 0), .v (.int .i64 0), .v (.int .i64 0), .v (.int .i64 0), .sl false 3 [], .sl false 3 []], .v (.bool false)],[.dead, .dead])
 else
 if 0≤b then
 if b<(↑f.blocks.length:Int) then
 if 0≤IntKind.i64.wrap ((↑(f.blocks.getD b.toNat (Block.mk [])).ins.length:Int)-1) then
 if IntKind.i64.wrap ((↑(f.blocks.getD b.toNat (Block.mk [])).ins.length:Int)-1)<(↑(f.blocks.getD b.toNat (Block.mk [])).ins.length:Int) then
 some (.tup [.agg [.v (.int .i64 (rdI f.blocks b.toNat (IntKind.i64.wrap ((↑(f.blocks.getD b.toNat (Block.mk [])).ins.length:Int)-1)).toNat).op), .v (.int .i64 (rdI f.blocks b.toNat (IntKind.i64.wrap ((↑(f.blocks.getD b.toNat (Block.mk [])).ins.length:Int)-1)).toNat).type_), .v (.int .i64 (rdI f.blocks b.toNat (IntKind.i64.wrap ((↑(f.blocks.getD b.toNat (Block.mk [])).ins.length:Int)-1)).toNat).to_), .v (.int .i64 (rdI f.blocks b.toNat (IntKind.i64.wrap ((↑(f.blocks.getD b.toNat (Block.mk [])).ins.length:Int)-1)).toNat).sym_), .v (.int .i64 (rdI f.blocks b.toNat (IntKind.i64.wrap ((↑(f.blocks.getD b.toNat (Block.mk [])).ins.length:Int)-1)).toNat).num), .sl false 3 (rdI f.blocks b.toNat (IntKind.i64.wrap ((↑(f.blocks.getD b.toNat (Block.mk [])).ins.length:Int)-1)).toNat).args, .sl false 3 (rdI f.blocks b.toNat (IntKind.i64.wrap ((↑(f.blocks.getD b.toNat (Block.mk [])).ins.length:Int)-1)).toNat).into], .v (.bool true)],[.dead, .dead])
 else none
 else none
 else none
 else none
 else none
 else none
 else
 some (.tup [.agg [.v (.int .i64 0), .v (.int .i64 0), .v (.int .i64 0), .v (.int .i64 0), .v (.int .i64 0), .sl false 3 [], .sl false 3 []], .v (.bool false)],[.dead, .dead])
 else
 some (.tup [.agg [.v (.int .i64 0), .v (.int .i64 0), .v (.int .i64 0), .v (.int .i64 0), .v (.int .i64 0), .sl false 3 [], .sl false 3 []], .v (.bool false)],[.dead, .dead]):=by kernel_rfl

theorem in180:Entered 180:=⟨Try.f180,b180,by kernel_rfl,by kernel_rfl,by kernel_rfl⟩
theorem fn180 (f:Ev.Func) (b:Int) {res:AV Ty} {outs:List (AV Ty)} (h:Ends C180 U180 (R180 f b) [.code b180] ⟨slotsA (a180 f b) 0 0,heapA (a180 f b)⟩ (some (res,outs))):CallOk tb Try.prog 180 (a180 f b) res outs:=by
 obtain ⟨n0,hn⟩:=h
 exact fn_ok (C:=C180) (U:=U180) (n:=0+n0) (q:= .keep) tbOk good (fun f mu S h=>by cases h) mixed (fn:=Try.f180) (body:=b180) (by kernel_rfl) (by kernel_rfl) rfl rfl (by show 2≤39;omega) (hn 0)
theorem last_ok (f:Ev.Func) (b:Int) (h:okF f):CallOk tb Try.prog 180 (a180 f b) (.tup [.agg [.v (.int .i64 (lastI f b).op), .v (.int .i64 (lastI f b).type_), .v (.int .i64 (lastI f b).to_), .v (.int .i64 (lastI f b).sym_), .v (.int .i64 (lastI f b).num), .sl false 3 (lastI f b).args, .sl false 3 (lastI f b).into], .v (.bool (lastB f b))]) [.dead, .dead]:=by
 refine fn180 f b (.step fun J=> ?_)
 by_cases hb:0≤b∧b<f.blocks.length
 ·obtain ⟨h1,h2⟩:=hb
  have h3:=h.b (b:=b.toNat) (by omega)
  by_cases h4:0<(f.blocks.getD b.toNat (Block.mk [])).ins.length
  ·have e1:lastB f b=true:=decide_eq_true ⟨h1,h2,h4⟩
   have w:IntKind.i64.wrap (((f.blocks.getD b.toNat (Block.mk [])).ins.length:Int)-1)=(((f.blocks.getD b.toNat (Block.mk [])).ins.length-1:Nat):Int):=wrap_nat (by omega) (by omega)
   have n0:(((f.blocks.getD b.toNat (Block.mk [])).ins.length:Int) == 0)=false:=by rw [beq_eq_false_iff_ne];omega
   rw [e180,w,n0]
   unfold lastI
   rw [e1]
   simp (disch:=first|omega|assumption|(rw [dT];omega)|(rw [dF];omega)) only [↓iP,↓iN,iT,iF,wrap_up,tN,Nat.zero_add,Bool.false_eq_true]
   rfl
  ·have e1:lastB f b=false:=decide_eq_false fun e=>h4 e.2.2
   have n0:(((f.blocks.getD b.toNat (Block.mk [])).ins.length:Int) == 0)=true:=by rw [beq_iff_eq];omega
   rw [e180,n0]
   unfold lastI
   rw [e1]
   simp (disch:=first|omega|assumption|(rw [dT];omega)|(rw [dF];omega)) only [↓iP,↓iN,iT,iF,wrap_up,tN,Nat.zero_add]
   rfl
 ·have e1:lastB f b=false:=decide_eq_false fun e=>hb ⟨e.1,e.2.1⟩
  rw [e180]
  unfold lastI
  rw [e1]
  by_cases h1:b<0
  ·simp (disch:=first|omega|assumption|(rw [dT];omega)|(rw [dF];omega)) only [↓iP,↓iN,iT,iF,wrap_up,tN,Nat.zero_add]
   rfl
  ·simp (disch:=first|omega|assumption|(rw [dT];omega)|(rw [dF];omega)) only [↓iP,↓iN,iT,iF,wrap_up,tN,Nat.zero_add]
   rfl
def S180:List (AV Ty)→T (AV Ty×List (AV Ty))
 |[.agg x, .v (.int .i64 b)]=>match cod33.dec false x with
  |some f=> .ite (okF f) (okF.dec f) (.ret (.tup [.agg [.v (.int .i64 (lastI f b).op), .v (.int .i64 (lastI f b).type_), .v (.int .i64 (lastI f b).to_), .v (.int .i64 (lastI f b).sym_), .v (.int .i64 (lastI f b).num), .sl false 3 (lastI f b).args, .sl false 3 (lastI f b).into], .v (.bool (lastB f b))],[.dead, .dead])) .fail
  |none=> .fail
 |_=> .fail
theorem S180_ok (l:List (AV Ty)) (r:AV Ty) (outs:List (AV Ty)) (h:(S180 l).val=some (r,outs)):CallOk tb Try.prog 180 l r outs:=by
 unfold S180 at h
 split at h
 ·rename_i x b
  split at h
  ·rename_i f e1
   rcases ite_val h with ⟨e,h⟩|⟨_,h⟩
   ·cases h
    have h1:=cod33_ok.dec false x f e1
    subst h1
    exact last_ok f b e
   ·cases h
  ·cases h
 ·cases h
def nextStep (N:Nat) (out:List Int) (n:Int):List Int:=if 0≤n∧n<N∧n ∉ out then out++[n] else out
def nextL (f:Ev.Func) (b:Int):List Int:=if lastB f b=true∧((lastI f b).op=27∨(lastI f b).op=28) then (lastI f b).into.foldl (nextStep f.blocks.length) [] else []
theorem next_fold (N:Nat): ∀(l out:List Int),(∀n,n∈out→0≤n∧n<N)→out.Nodup→(∀n,n∈l.foldl (nextStep N) out→0≤n∧n<N)∧(l.foldl (nextStep N) out).Nodup∧(l.foldl (nextStep N) out).length≤out.length+l.length
 |[],out,h,hn=>⟨h,hn,by simp⟩
 |x :: l,out,h,hn=>by
  have h1:(∀n,n∈nextStep N out x→0≤n∧n<N)∧(nextStep N out x).Nodup∧(nextStep N out x).length≤out.length+1:=by
   unfold nextStep
   split
   ·rename_i hx
    refine ⟨fun n hm=> ?_,?_,by simp⟩
    ·rcases List.mem_append.1 hm with hm|hm
     ·exact h n hm
     ·rw [List.mem_singleton] at hm;subst hm;exact ⟨hx.1,hx.2.1⟩
    ·rw [List.nodup_append]
     refine ⟨hn,by simp,fun a ha b hb=> ?_⟩
     rw [List.mem_singleton] at hb
     subst hb
     rintro rfl
     exact hx.2.2 ha
   ·exact ⟨h,hn,by omega⟩
  obtain ⟨g1,g2,g3⟩:=next_fold N l (nextStep N out x) h1.1 h1.2.1
  refine ⟨g1,g2,?_⟩
  have:=h1.2.2
  simp only [List.foldl_cons,List.length_cons]
  omega
theorem lastI_in {f:Ev.Func} (h:okF f) (b:Int):(lastI f b).into.length≤1000:=by
 unfold lastI
 split
 ·rename_i e
  obtain ⟨h1,h2,h3⟩:=of_decide_eq_true e
  exact ((h.2.2 _ (getD_mem (d:=(Block.mk [])) (show b.toNat<f.blocks.length by omega))).2 _ (getD_mem (d:=(Ins.mk 0 0 0 0 0 [] [])) (show (f.blocks.getD b.toNat (Block.mk [])).ins.length-1<_ by omega))).2
 ·simp
theorem nextL_in {f:Ev.Func} {b n:Int} (h:n∈nextL f b):0≤n∧n<f.blocks.length:=by
 unfold nextL at h
 split at h
 ·exact (next_fold _ _ [] (fun _ h=>by cases h) List.nodup_nil).1 n h
 ·cases h
theorem nextL_nodup (f:Ev.Func) (b:Int):(nextL f b).Nodup:=by
 unfold nextL
 split
 ·exact (next_fold _ _ [] (fun _ h=>by cases h) List.nodup_nil).2.1
 ·exact List.nodup_nil
theorem nextL_len {f:Ev.Func} (h:okF f) (b:Int):(nextL f b).length≤1000:=by
 unfold nextL
 split
 ·have:=(next_fold f.blocks.length (lastI f b).into [] (fun _ h=>by cases h) List.nodup_nil).2.2
  have:=lastI_in h b
  simp only [List.length_nil] at*
  omega
 ·simp
noncomputable def b170:Code:=bodyOf Try.f170
noncomputable def C170:Cfg Ty:=⟨fun
 |180=>some ([],S180)
 |47=>some ([],S47)
 |_=>none,fun _=>false,60,0⟩
def U170:Cuts:=⟨fun
 |0=>some [(7,some 3)]
 |_=>none,fun
 |0=>some [(2,none),(5,none),(7,some 3),(8,none)]
 |_=>none,fun _=>none⟩
noncomputable def k170_j0:List Item:=[.code (sndC (sndC (sndC (sndC (sndC b170)))))]
noncomputable def k170_l0:List Item:=[.code (inC (inC (sndC (fstC (sndC (sndC (sndC (sndC b170)))))))), .inLoop (inC (inC (sndC (fstC (sndC (sndC (sndC (sndC b170)))))))), .inBlock 0, .code (sndC (sndC (sndC (sndC (sndC b170)))))]
def a170 (f:Func) (b:Int):List (AV Ty):=[.agg [.v (.string f.name), .v (.bool f.out), .sl false (3:Nat) f.params, .v (.int .i64 f.result), .sl false (44:Nat) f.blocks], .v (.int .i64 b)]
noncomputable def R170 (f:Func) (b:Int):St Ty→EvR:=resT tb C170 Try.f170.results.toList (.fro 3) (a170 f b)
def s170_l0 (f:Func) (b:Int) (v8:Int) (h0:List Func) (h1:List Ins) (h2:List Int):St Ty:=St.mk [(2, .ptr (0) [] (0) (0)),(5, .ptr (1) [] (0) (0)),(7, .ref (2) [] none false),(8, .v (.int .i64 v8))] [some (Root.mk (33) false h0),some (Root.mk (46) false h1),some (Root.mk (3) false h2)]
def s170_j0 (f:Func) (b:Int) (h0:List Int):St Ty:=St.mk [(7, .ref (0) [] none false)] [some (Root.mk (3) false h0)]
theorem e170 (J f b):run tb C170 U170 J (R170 f b) 4096 [.code b170] ⟨slotsA (a170 f b) 0 0,heapA (a170 f b)⟩=
 if okF (Func.mk f.name f.out f.params f.result f.blocks) then
 if (!lastB (Func.mk f.name f.out f.params f.result f.blocks) b)=false then
 if ((lastI (Func.mk f.name f.out f.params f.result f.blocks) b).op != 27)=true then
 if ((lastI (Func.mk f.name f.out f.params f.result f.blocks) b).op != 28)=true then
 some (.sl false 3 [],[.dead, .dead])
 else
 J k170_l0 (s170_l0 f b 0 ([Func.mk f.name f.out f.params f.result f.blocks]) ([Ins.mk (lastI (Func.mk f.name f.out f.params f.result f.blocks) b).op (lastI (Func.mk f.name f.out f.params f.result f.blocks) b).type_ (lastI (Func.mk f.name f.out f.params f.result f.blocks) b).to_ (lastI (Func.mk f.name f.out f.params f.result f.blocks) b).sym_ (lastI (Func.mk f.name f.out f.params f.result f.blocks) b).num (lastI (Func.mk f.name f.out f.params f.result f.blocks) b).args (lastI (Func.mk f.name f.out f.params f.result f.blocks) b).into]) ([]))
 else
 J k170_l0 (s170_l0 f b 0 ([Func.mk f.name f.out f.params f.result f.blocks]) ([Ins.mk (lastI (Func.mk f.name f.out f.params f.result f.blocks) b).op (lastI (Func.mk f.name f.out f.params f.result f.blocks) b).type_ (lastI (Func.mk f.name f.out f.params f.result f.blocks) b).to_ (lastI (Func.mk f.name f.out f.params f.result f.blocks) b).sym_ (lastI (Func.mk f.name f.out f.params f.result f.blocks) b).num (lastI (Func.mk f.name f.out f.params f.result f.blocks) b).args (lastI (Func.mk f.name f.out f.params f.result f.blocks) b).into]) ([]))
 else
 some (.sl false 3 [],[.dead, .dead])
 else none:=by kernel_rfl
theorem e170_l0 (J f b v8 h0 h1 h2):run tb C170 U170 J (R170 f b) 4096 k170_l0 (s170_l0 f b v8 h0 h1 h2)=
 if decide (v8<(↑(h1.getD (0) (Ins.mk 0 0 0 0 0 [] [])).into.length:Int))=true then
 if 0≤v8 then
 if v8<(↑(h1.getD (0) (Ins.mk 0 0 0 0 0 [] [])).into.length:Int) then
 if decide ((h1.getD (0) (Ins.mk 0 0 0 0 0 [] [])).into.getD v8.toNat 0≥0)=true then
 if decide ((h1.getD (0) (Ins.mk 0 0 0 0 0 [] [])).into.getD v8.toNat 0<(↑(h0.getD (0) (Func.mk ByteArray.empty false [] 0 [])).blocks.length:Int))=true then
 if h2.length≤4611686018427387904 then
 if (!inB h2 ((h1.getD (0) (Ins.mk 0 0 0 0 0 [] [])).into.getD v8.toNat 0))=true then
 if h2.length+[(h1.getD (0) (Ins.mk 0 0 0 0 0 [] [])).into.getD v8.toNat 0].length+1≤549755813888∧(h2.length+[(h1.getD (0) (Ins.mk 0 0 0 0 0 [] [])).into.getD v8.toNat 0].length+1)*8≤549755813888 then
 J k170_l0 (s170_l0 f b (IntKind.i64.wrap (v8+1)) h0 h1 (h2++[(h1.getD (0) (Ins.mk 0 0 0 0 0 [] [])).into.getD v8.toNat 0]))
 else none
 else
 J k170_l0 (s170_l0 f b (IntKind.i64.wrap (v8+1)) h0 h1 h2)
 else none
 else
 J k170_l0 (s170_l0 f b (IntKind.i64.wrap (v8+1)) h0 h1 h2)
 else
 J k170_l0 (s170_l0 f b (IntKind.i64.wrap (v8+1)) h0 h1 h2)
 else none
 else none
 else
 J k170_j0 (s170_j0 f b h2):=by kernel_rfl
theorem e170_j0 (J f b h0):run tb C170 U170 J (R170 f b) 4096 k170_j0 (s170_j0 f b h0)=
 some (.sl false (3) h0,[.dead, .dead]):=by kernel_rfl

theorem in170:Entered 170:=⟨Try.f170,b170,by kernel_rfl,by kernel_rfl,by kernel_rfl⟩
theorem fn170 (f:Ev.Func) (b:Int) {res:AV Ty} {outs:List (AV Ty)} (h:Ends C170 U170 (R170 f b) [.code b170] ⟨slotsA (a170 f b) 0 0,heapA (a170 f b)⟩ (some (res,outs))):CallOk tb Try.prog 170 (a170 f b) res outs:=by
 obtain ⟨n0,hn⟩:=h
 exact fn_ok (C:=C170) (U:=U170) (n:=0+n0) (q:=(.fro 3)) tbOk good (fun f mu S h=>by
  unfold C170 at h
  simp only at h
  split at h
  ·cases h;exact ⟨in180,S180_ok⟩
  ·cases h;exact ⟨in47,S47_ok⟩
  ·cases h) mixed (fn:=Try.f170) (body:=b170) (by kernel_rfl) (by kernel_rfl) rfl rfl (by show 2≤60;omega) (hn 0)
section
variable {f:Ev.Func} {b:Int}
theorem Next.step (h:okF f) {i:Nat} (hi:i<(lastI f b).into.length):Goes C170 U170 (R170 f b) k170_l0 (s170_l0 f b i [f] [lastI f b] (((lastI f b).into.take i).foldl (nextStep f.blocks.length) [])) k170_l0 (s170_l0 f b (i+1:Nat) [f] [lastI f b] (((lastI f b).into.take (i+1)).foldl (nextStep f.blocks.length) [])):= .step fun J=>by
 have hl:=lastI_in h b
 have w:IntKind.i64.wrap ((i:Int)+1)=((i+1:Nat):Int):=wrap_nat (by omega) (by omega)
 have hlen:=(next_fold f.blocks.length ((lastI f b).into.take i) [] (fun _ h=>by cases h) List.nodup_nil).2.2
 rw [List.length_nil,Nat.zero_add,List.length_take] at hlen
 rw [take_step (d:=0) hi,List.foldl_append,List.foldl_cons,List.foldl_nil]
 generalize ((lastI f b).into.take i).foldl (nextStep f.blocks.length) []=out at*
 rw [e170_l0]
 simp only [List.getD_cons_zero,Int.toNat_natCast,w]
 unfold nextStep
 by_cases h1:0≤(lastI f b).into.getD i 0
 ·by_cases h2:(lastI f b).into.getD i 0<f.blocks.length
  ·by_cases h3:(lastI f b).into.getD i 0∈out
   ·have e:inB out ((lastI f b).into.getD i 0)=true:=decide_eq_true h3
    rw [e,if_neg (c:=0≤_∧_) fun h=>h.2.2 h3]
    simp (disch:=first|omega|assumption|(rw [dT];omega)|(rw [dF];omega)) only [↓iP,↓iN,iT,iF,wrap_up,tN,Nat.zero_add,Bool.not_true,Bool.false_eq_true]
   ·have e:inB out ((lastI f b).into.getD i 0)=false:=decide_eq_false h3
    rw [e,if_pos (c:=0≤_∧_) ⟨h1,h2,h3⟩]
    simp (disch:=first|omega|assumption|(rw [dT];omega)|(rw [dF];omega)) only [↓iP,↓iN,iT,iF,wrap_up,tN,Nat.zero_add,Bool.not_false,List.length_singleton]
  ·rw [if_neg (c:=0≤_∧_) fun h=>h2 h.2.1]
   simp (disch:=first|omega|assumption|(rw [dT];omega)|(rw [dF];omega)) only [↓iP,↓iN,iT,iF,wrap_up,tN,Nat.zero_add]
 ·rw [if_neg (c:=0≤_∧_) fun h=>h1 h.1]
  simp (disch:=first|omega|assumption|(rw [dT];omega)|(rw [dF];omega)) only [↓iP,↓iN,iT,iF,wrap_up,tN,Nat.zero_add]
theorem next_ok (f:Ev.Func) (b:Int) (h:okF f):CallOk tb Try.prog 170 (a170 f b) (.sl false 3 (nextL f b)) [.dead, .dead]:=by
 refine fn170 f b ?_
 unfold nextL
 have e0:(Func.mk f.name f.out f.params f.result f.blocks)=f:=rfl
 have main:Ends C170 U170 (R170 f b) k170_l0 (s170_l0 f b (0:Nat) [f] [lastI f b] []) (some (.sl false 3 ((lastI f b).into.foldl (nextStep f.blocks.length) []),[.dead, .dead])):=by
  refine Goes.ends (Goes.upto (fun i=>s170_l0 f b i [f] [lastI f b] (((lastI f b).into.take i).foldl (nextStep f.blocks.length) [])) _ (fun i hi=>Next.step h hi) _ (Nat.le_refl _)) ?_
  rw [List.take_length]
  refine Goes.ends (k':=k170_j0) (s':=s170_j0 f b ((lastI f b).into.foldl (nextStep f.blocks.length) [])) (.step fun J=> ?_) (.step fun J=>e170_j0 ..)
  rw [e170_l0]
  simp only [List.getD_cons_zero,Int.toNat_natCast]
  simp (disch:=first|omega|assumption|(rw [dT];omega)|(rw [dF];omega)) only [↓iP,↓iN,iT,iF,wrap_up,tN,Nat.zero_add]
 cases hb:lastB f b with
 |false=>
  rw [if_neg (fun e=>by cases e.1)]
  refine .step fun J=> ?_
  rw [e170,e0,hb]
  simp (disch:=first|omega|assumption|(rw [dT];omega)|(rw [dF];omega)) only [↓iP,↓iN,iT,iF,wrap_up,tN,Nat.zero_add,h,Bool.not_false,Bool.true_eq_false]
  rfl
 |true=>
  by_cases h1:(lastI f b).op=27∨(lastI f b).op=28
  ·rw [if_pos ⟨rfl,h1⟩]
   refine Goes.ends (.step fun J=> ?_) main
   by_cases h2:(lastI f b).op=27
   ·have h3:((lastI f b).op != 27)=false:=by rw [h2];rfl
    rw [e170,e0,hb,h3]
    simp (disch:=first|omega|assumption|(rw [dT];omega)|(rw [dF];omega)) only [↓iP,↓iN,iT,iF,wrap_up,tN,Nat.zero_add,h,Bool.not_true,Bool.false_eq_true]
    rfl
   ·have h3:((lastI f b).op != 27)=true:=bne_iff_ne.2 h2
    have h4:((lastI f b).op != 28)=false:=by rw [show (lastI f b).op=28 by omega];rfl
    rw [e170,e0,hb,h3,h4]
    simp (disch:=first|omega|assumption|(rw [dT];omega)|(rw [dF];omega)) only [↓iP,↓iN,iT,iF,wrap_up,tN,Nat.zero_add,h,Bool.not_true,Bool.false_eq_true]
    rfl
  ·rw [if_neg fun e=>h1 e.2]
   have h2:((lastI f b).op != 27)=true:=bne_iff_ne.2 fun e=>h1 (.inl e)
   have h3:((lastI f b).op != 28)=true:=bne_iff_ne.2 fun e=>h1 (.inr e)
   refine .step fun J=> ?_
   rw [e170,e0,hb,h2,h3]
   simp (disch:=first|omega|assumption|(rw [dT];omega)|(rw [dF];omega)) only [↓iP,↓iN,iT,iF,wrap_up,tN,Nat.zero_add,h,Bool.not_true]
   rfl
end
def S170:List (AV Ty)→T (AV Ty×List (AV Ty))
 |[.agg x, .v (.int .i64 b)]=>match cod33.dec false x with
  |some f=> .ite (okF f) (okF.dec f) (.ret (.sl false 3 (nextL f b),[.dead, .dead])) .fail
  |none=> .fail
 |_=> .fail
theorem S170_ok (l:List (AV Ty)) (r:AV Ty) (outs:List (AV Ty)) (h:(S170 l).val=some (r,outs)):CallOk tb Try.prog 170 l r outs:=by
 unfold S170 at h
 split at h
 ·rename_i x b
  split at h
  ·rename_i f e1
   rcases ite_val h with ⟨e,h⟩|⟨_,h⟩
   ·cases h
    have h1:=cod33_ok.dec false x f e1
    subst h1
    exact next_ok f b e
   ·cases h
  ·cases h
 ·cases h
end Go.Proofs.Ytggibjbcbicpjaa.Ev
namespace Go.Proofs.Ytggibjbcbicpjaa.Ev
open Go
set_option linter.unusedVariables false
set_option linter.unusedSimpArgs false
def prevStep (b:Nat) (P:List (List Int)) (n:Int):List (List Int):=P.set n.toNat (P.getD n.toNat []++[(b:Int)])
def prevB (f:Ev.Func) (P:List (List Int)) (b:Nat):List (List Int):=(nextL f b).foldl (prevStep b) P
def prevL (f:Ev.Func):List (List Int):=(List.range f.blocks.length).foldl (prevB f) (List.replicate f.blocks.length [])
def RowsIn (N q:Nat) (P:List (List Int)):Prop:=P.length=N∧ ∀r,r∈P→(∀e,e∈r→0≤e∧e<N)∧r.length≤q
theorem prevStep_in {N q b:Nat} {P:List (List Int)} (h:RowsIn N q P) (hb:b<N) {n:Int}:RowsIn N (q+1) (prevStep b P n):=by
 unfold prevStep
 refine ⟨by rw [List.length_set];exact h.1,fun r hr=> ?_⟩
 rcases List.mem_or_eq_of_mem_set hr with hr|rfl
 ·exact ⟨(h.2 r hr).1,Nat.le_succ_of_le (h.2 r hr).2⟩
 ·by_cases hn:n.toNat<P.length
  ·obtain ⟨h1,h2⟩:=h.2 _ (getD_mem (d:=[]) hn)
   refine ⟨fun e he=> ?_,by simp only [List.length_append,List.length_singleton];omega⟩
   rcases List.mem_append.1 he with he|he
   ·exact h1 e he
   ·rw [List.mem_singleton] at he;subst he;omega
  ·have:P.getD n.toNat []=[]:=by simp [List.getD,Nat.not_lt.1 hn]
   rw [this]
   refine ⟨fun e he=> ?_,by simp⟩
   rw [List.nil_append,List.mem_singleton] at he
   subst he
   omega
theorem prevF_in {N b:Nat} (hb:b<N): ∀(l:List Int) {q:Nat} {P:List (List Int)},RowsIn N q P→RowsIn N (q+l.length) (l.foldl (prevStep b) P)
 |[],_,_,h=>h
 |x :: l,q,P,h=>by
  have:=prevF_in hb l (prevStep_in h hb (n:=x))
  rw [List.length_cons,show q+(l.length+1)=q+1+l.length by omega]
  exact this
theorem prevB_in {f:Ev.Func} (hf:okF f) {b:Nat} (hb:b<f.blocks.length) {P:List (List Int)} (h:RowsIn f.blocks.length (b*1000) P):RowsIn f.blocks.length ((b+1)*1000) (prevB f P b):=by
 have h1:=prevF_in hb (nextL f b) h
 have h2:=nextL_len hf b
 exact ⟨h1.1,fun r hr=>⟨(h1.2 r hr).1,by have:=(h1.2 r hr).2;omega⟩⟩
theorem prevN_in {f:Ev.Func} (hf:okF f): ∀ {b:Nat},b≤f.blocks.length→RowsIn f.blocks.length (b*1000) ((List.range b).foldl (prevB f) (List.replicate f.blocks.length []))
 |0,_=>⟨by simp,fun r hr=>by have:=List.eq_of_mem_replicate hr;subst this;simp⟩
 |b+1,hb=>by
  rw [List.range_succ,List.foldl_append,List.foldl_cons,List.foldl_nil]
  exact prevB_in hf (by omega) (prevN_in hf (by omega))
theorem prevL_in {f:Ev.Func} (hf:okF f):RowsIn f.blocks.length (f.blocks.length*1000) (prevL f):=prevN_in hf (Nat.le_refl _)
noncomputable def b152:Code:=bodyOf Try.f152
noncomputable def C152:Cfg Ty:=⟨fun
 |170=>some ([],S170)
 |_=>none,fun
 |10=>true
 |41=>true
 |40=>true
 |100042=>true
 |_=>false,44,0⟩
def U152:Cuts:=⟨fun
 |0=>some [(3,none)]
 |1=>some [(1,none),(3,none),(4,none)]
 |2=>some [(1,none),(3,none),(4,none)]
 |_=>none,fun
 |0=>some [(1,none),(3,none),(4,none)]
 |2=>some [(1,none),(3,none),(4,none),(5,none),(6,none)]
 |_=>none,fun _=>none⟩
noncomputable def k152_j0:List Item:=[.code (sndC (sndC (sndC b152)))]
noncomputable def k152_l0:List Item:=[.code (inC (inC (sndC (fstC (sndC (sndC b152)))))), .inLoop (inC (inC (sndC (fstC (sndC (sndC b152)))))), .inBlock 0, .code (sndC (sndC (sndC b152)))]
noncomputable def k152_j1:List Item:=[.code (sndC (sndC (inC (inC (sndC (fstC (sndC (sndC b152)))))))), .inLoop (inC (inC (sndC (fstC (sndC (sndC b152)))))), .inBlock 0, .code (sndC (sndC (sndC b152)))]
noncomputable def k152_j2:List Item:=[.inBlock 1, .code (sndC (sndC (inC (inC (sndC (fstC (sndC (sndC b152)))))))), .inLoop (inC (inC (sndC (fstC (sndC (sndC b152)))))), .inBlock 0, .code (sndC (sndC (sndC b152)))]
noncomputable def k152_l2:List Item:=[.code (inC (inC (sndC (sndC (inC (fstC (sndC (inC (inC (sndC (fstC (sndC (sndC b152))))))))))))), .inLoop (inC (inC (sndC (sndC (inC (fstC (sndC (inC (inC (sndC (fstC (sndC (sndC b152))))))))))))), .inBlock 2, .inBlock 1, .code (sndC (sndC (inC (inC (sndC (fstC (sndC (sndC b152)))))))), .inLoop (inC (inC (sndC (fstC (sndC (sndC b152)))))), .inBlock 0, .code (sndC (sndC (sndC b152)))]
def a152 (f:Func):List (AV Ty):=[.agg [.v (.string f.name), .v (.bool f.out), .sl false (3:Nat) f.params, .v (.int .i64 f.result), .sl false (44:Nat) f.blocks]]
noncomputable def R152 (f:Func):St Ty→EvR:=resT tb C152 Try.f152.results.toList (.fro 30) (a152 f)
def s152_l0 (f:Func) (v4:Int) (h0:List Func) (h1:List (List Int)):St Ty:=St.mk [(1, .ptr (0) [] (0) (0)),(3, .ref (1) [] none false),(4, .v (.int .i64 v4))] [some (Root.mk (33) false h0),some (Root.mk (30) true h1)]
def s152_l2 (f:Func) (v4:Int) (v5:List Int) (v6:Int) (h0:List Func) (h1:List (List Int)):St Ty:=St.mk [(1, .ptr (0) [] (0) (0)),(3, .ref (1) [] none false),(4, .v (.int .i64 v4)),(5, .sl false (3) v5),(6, .v (.int .i64 v6))] [some (Root.mk (33) false h0),some (Root.mk (30) true h1)]
def s152_j0 (f:Func) (h0:List (List Int)):St Ty:=St.mk [(3, .ref (0) [] none false)] [some (Root.mk (30) true h0)]
def s152_j2 (f:Func) (v4:Int) (h0:List Func) (h1:List (List Int)):St Ty:=St.mk [(1, .ptr (0) [] (0) (0)),(3, .ref (1) [] none false),(4, .v (.int .i64 v4))] [some (Root.mk (33) false h0),some (Root.mk (30) true h1)]
def s152_j1 (f:Func) (v4:Int) (h0:List Func) (h1:List (List Int)):St Ty:=St.mk [(1, .ptr (0) [] (0) (0)),(3, .ref (1) [] none false),(4, .v (.int .i64 v4))] [some (Root.mk (33) false h0),some (Root.mk (30) true h1)]
theorem e152 (J f):run tb C152 U152 J (R152 f) 4096 [.code b152] ⟨slotsA (a152 f) 0 0,heapA (a152 f)⟩=
 if 0≤(↑f.blocks.length:Int)∧(↑f.blocks.length:Int)≤(↑f.blocks.length:Int)∧(↑f.blocks.length:Int)≤1099511627776∧(↑f.blocks.length:Int)*(↑24:Int)≤1099511627776 then
 J k152_l0 (s152_l0 f 0 ([Func.mk f.name f.out f.params f.result f.blocks]) (List.replicate (↑f.blocks.length:Int).toNat []))
 else none:=by kernel_rfl
theorem e152_l0 (J f v4 h0 h1):run tb C152 U152 J (R152 f) 4096 k152_l0 (s152_l0 f v4 h0 h1)=
 if decide (v4<(↑(h0.getD (0) (Func.mk ByteArray.empty false [] 0 [])).blocks.length:Int))=true then
 if okF (Func.mk (h0.getD (0) (Func.mk ByteArray.empty false [] 0 [])).name (h0.getD (0) (Func.mk ByteArray.empty false [] 0 [])).out (h0.getD (0) (Func.mk ByteArray.empty false [] 0 [])).params (h0.getD (0) (Func.mk ByteArray.empty false [] 0 [])).result (h0.getD (0) (Func.mk ByteArray.empty false [] 0 [])).blocks) then
 J k152_l2 (s152_l2 f v4 (nextL (Func.mk (h0.getD (0) (Func.mk ByteArray.empty false [] 0 [])).name (h0.getD (0) (Func.mk ByteArray.empty false [] 0 [])).out (h0.getD (0) (Func.mk ByteArray.empty false [] 0 [])).params (h0.getD (0) (Func.mk ByteArray.empty false [] 0 [])).result (h0.getD (0) (Func.mk ByteArray.empty false [] 0 [])).blocks) v4) 0 h0 h1)
 else none
 else
 J k152_j0 (s152_j0 f h1):=by kernel_rfl
theorem e152_l2 (J f v4 v5 v6 h0 h1):run tb C152 U152 J (R152 f) 4096 k152_l2 (s152_l2 f v4 v5 v6 h0 h1)=
 if decide (v6<(↑v5.length:Int))=true then
 if 0≤v6 then
 if v6<(↑v5.length:Int) then
 if 0≤v6 then
 if v6<(↑v5.length:Int) then
 if 0≤v5.getD v6.toNat 0 then
 if v5.getD v6.toNat 0<(↑h1.length:Int) then
 if List.length (h1.getD (0+Int.toNat (v5.getD v6.toNat 0)) [])+[v4].length+1≤549755813888∧(List.length (h1.getD (0+Int.toNat (v5.getD v6.toNat 0)) [])+[v4].length+1)*8≤549755813888 then
 if 0≤v5.getD v6.toNat 0 then
 if v5.getD v6.toNat 0<(↑h1.length:Int) then
 if []++[(0+Int.toNat (v5.getD v6.toNat 0),0)]=[(0+Int.toNat (v5.getD v6.toNat 0),0)] then
 J k152_l2 (s152_l2 f v4 v5 (IntKind.i64.wrap (v6+1)) h0 (h1.set (0+Int.toNat (v5.getD v6.toNat 0)) (h1.getD (0+Int.toNat (v5.getD v6.toNat 0)) []++[v4])))
 else none
 else none
 else none
 else none
 else none
 else none
 else none
 else none
 else none
 else none
 else
 J k152_j2 (s152_j2 f v4 h0 h1):=by kernel_rfl
theorem e152_j0 (J f h0):run tb C152 U152 J (R152 f) 4096 k152_j0 (s152_j0 f h0)=
 some (.sl false (30) h0,[.dead]):=by kernel_rfl
theorem e152_j2 (J f v4 h0 h1):run tb C152 U152 J (R152 f) 4096 k152_j2 (s152_j2 f v4 h0 h1)=
 J k152_j1 (s152_j1 f v4 h0 h1):=by kernel_rfl
theorem e152_j1 (J f v4 h0 h1):run tb C152 U152 J (R152 f) 4096 k152_j1 (s152_j1 f v4 h0 h1)=
 J k152_l0 (s152_l0 f (IntKind.i64.wrap (v4+1)) h0 h1):=by kernel_rfl

theorem in152:Entered 152:=⟨Try.f152,b152,by kernel_rfl,by kernel_rfl,by kernel_rfl⟩
theorem fn152 (f:Ev.Func) {res:AV Ty} {outs:List (AV Ty)} (h:Ends C152 U152 (R152 f) [.code b152] ⟨slotsA (a152 f) 0 0,heapA (a152 f)⟩ (some (res,outs))):CallOk tb Try.prog 152 (a152 f) res outs:=by
 obtain ⟨n0,hn⟩:=h
 exact fn_ok (C:=C152) (U:=U152) (n:=0+n0) (q:=(.fro 30)) tbOk good (fun f mu S h=>by
  unfold C152 at h
  simp only at h
  split at h
  ·cases h;exact ⟨in170,S170_ok⟩
  ·cases h) mixed (fn:=Try.f152) (body:=b152) (by kernel_rfl) (by kernel_rfl) rfl rfl (by show 1≤44;omega) (hn 0)
section
variable {f:Ev.Func}
theorem Prev.in (hf:okF f) {b i:Nat} (hb:b<f.blocks.length) (hi:i<(nextL f b).length) {P:List (List Int)} (hP:RowsIn f.blocks.length (b*1000) P):Goes C152 U152 (R152 f) k152_l2 (s152_l2 f b (nextL f b) i [f] (((nextL f b).take i).foldl (prevStep b) P)) k152_l2 (s152_l2 f b (nextL f b) (i+1:Nat) [f] (((nextL f b).take (i+1)).foldl (prevStep b) P)):= .step fun J=>by
 have hl:=nextL_len hf b
 have w:IntKind.i64.wrap ((i:Int)+1)=((i+1:Nat):Int):=wrap_nat (by omega) (by omega)
 have hn:=nextL_in (getD_mem (d:=0) hi)
 have h1:=prevF_in hb ((nextL f b).take i) hP
 have h0:=hf.2.1
 rw [List.length_take] at h1
 rw [take_step (d:=0) hi,List.foldl_append,List.foldl_cons,List.foldl_nil]
 generalize ((nextL f b).take i).foldl (prevStep b) P=out at*
 obtain ⟨n1,n2⟩:=hn
 have hlen:out.length=f.blocks.length:=h1.1
 have hr:=(h1.2 _ (getD_mem (d:=[]) (show ((nextL f b).getD i 0).toNat<out.length by omega))).2
 rw [e152_l2]
 simp only [List.getD_cons_zero,Int.toNat_natCast,w,Nat.zero_add]
 unfold prevStep
 generalize (nextL f b).getD i 0=n at*
 have c1:List.length (out.getD n.toNat [])+[(b:Int)].length+1≤549755813888∧(List.length (out.getD n.toNat [])+[(b:Int)].length+1)*8≤549755813888:=by
  rw [List.length_singleton]
  have:b*1000≤1000000:=by omega
  omega
 simp (disch:=first|omega|assumption|(rw [dT];omega)|(rw [dF];omega)) only [↓iP,↓iN,iT,iF,wrap_up,tN,Nat.zero_add,c1,List.nil_append,and_self]
theorem Prev.step (hf:okF f) {b:Nat} (hb:b<f.blocks.length) {P:List (List Int)} (hP:RowsIn f.blocks.length (b*1000) P):Goes C152 U152 (R152 f) k152_l0 (s152_l0 f b [f] P) k152_l0 (s152_l0 f (b+1:Nat) [f] (prevB f P b)):=by
 have h0:=hf.2.1
 have e0:(Func.mk f.name f.out f.params f.result f.blocks)=f:=rfl
 refine Goes.trans (k':=k152_l2) (s':=s152_l2 f b (nextL f b) (0:Nat) [f] P) (.step fun J=> ?_) ?_
 ·rw [e152_l0]
  simp only [List.getD_cons_zero,Int.toNat_natCast]
  rw [e0]
  simp (disch:=first|omega|assumption|(rw [dT];omega)|(rw [dF];omega)) only [↓iP,↓iN,iT,iF,wrap_up,tN,Nat.zero_add,hf]
  rfl
 refine (Goes.upto (fun i=>s152_l2 f b (nextL f b) i [f] (((nextL f b).take i).foldl (prevStep b) P)) _ (fun i hi=>Prev.in hf hb hi hP) _ (Nat.le_refl _)).trans ?_
 rw [List.take_length]
 refine Goes.trans (k':=k152_j2) (s':=s152_j2 f b [f] (prevB f P b)) (.step fun J=> ?_) (.trans (.step fun J=>e152_j2 ..) (.step fun J=> ?_))
 ·rw [e152_l2]
  simp only [List.getD_cons_zero,Int.toNat_natCast]
  simp (disch:=first|omega|assumption|(rw [dT];omega)|(rw [dF];omega)) only [↓iP,↓iN,iT,iF,wrap_up,tN,Nat.zero_add]
  rfl
 ·rw [e152_j1,wrap_nat (n:=b+1) (by omega) (by omega)]
theorem prev_ok (f:Ev.Func) (h:okF f):CallOk tb Try.prog 152 (a152 f) (.sl false 30 (prevL f)) [.dead]:=by
 have h0:=h.2.1
 refine fn152 f (Goes.ends (k':=k152_l0) (s':=s152_l0 f (0:Nat) [f] (List.replicate f.blocks.length [])) (.step fun J=> ?_) ?_)
 ·rw [e152]
  have c1:0≤(f.blocks.length:Int)∧(f.blocks.length:Int)≤(f.blocks.length:Int)∧(f.blocks.length:Int)≤1099511627776∧(f.blocks.length:Int)*((24:Nat):Int)≤1099511627776:=by omega
  simp (disch:=first|omega|assumption|(rw [dT];omega)|(rw [dF];omega)) only [↓iP,↓iN,iT,iF,wrap_up,tN,Nat.zero_add,c1,and_self]
  rfl
 have:=Goes.upto (C:=C152) (U:=U152) (Rt:=R152 f) (k:=k152_l0) (fun b=>s152_l0 f b [f] ((List.range b).foldl (prevB f) (List.replicate f.blocks.length []))) f.blocks.length (fun b hb=>by
  rw [List.range_succ,List.foldl_append,List.foldl_cons,List.foldl_nil]
  exact Prev.step h hb (prevN_in h (by omega))) _ (Nat.le_refl _)
 refine this.ends (Goes.ends (k':=k152_j0) (s':=s152_j0 f (prevL f)) (.step fun J=> ?_) (.step fun J=>e152_j0 ..))
 rw [e152_l0]
 simp only [List.getD_cons_zero,Int.toNat_natCast]
 simp (disch:=first|omega|assumption|(rw [dT];omega)|(rw [dF];omega)) only [↓iP,↓iN,iT,iF,wrap_up,tN,Nat.zero_add]
 rfl
end
noncomputable def S152:List (AV Ty)→T (AV Ty×List (AV Ty))
 |[.agg x]=>match cod33.dec false x with
  |some f=> .ite (okF f) (okF.dec f) (.ret (.sl false 30 (prevL f),[.dead])) .fail
  |none=> .fail
 |_=> .fail
theorem S152_ok (l:List (AV Ty)) (r:AV Ty) (outs:List (AV Ty)) (h:(S152 l).val=some (r,outs)):CallOk tb Try.prog 152 l r outs:=by
 unfold S152 at h
 split at h
 ·rename_i x
  split at h
  ·rename_i f e1
   rcases ite_val h with ⟨e,h⟩|⟨_,h⟩
   ·cases h
    have h1:=cod33_ok.dec false x f e1
    subst h1
    exact prev_ok f e
   ·cases h
  ·cases h
 ·cases h
def cntT:List Bool→Nat
 |[]=>0
 |true :: l=>cntT l+1
 |false :: l=>cntT l
theorem cntT_le: ∀l:List Bool,cntT l≤l.length
 |[]=>Nat.le_refl _
 |true :: l=>Nat.succ_le_succ (cntT_le l)
 |false :: l=>Nat.le_succ_of_le (cntT_le l)
theorem cntT_set: ∀ {l:List Bool} {i:Nat},i<l.length→l.getD i false=false→cntT (l.set i true)=cntT l+1
 |[],i,h,_=>absurd h (Nat.not_lt_zero _)
 |b :: l,0,_,e=>by
  have e:b=false:=by simpa using e
  subst e
  rfl
 |b :: l,i+1,h,e=>by
  have:=cntT_set (l:=l) (i:=i) (by simpa using h) (by simpa using e)
  cases b
  ·simpa [cntT] using this
  ·simp only [List.set_cons_succ,cntT,this]
noncomputable def b169:Code:=bodyOf Try.f169
noncomputable def C169:Cfg Ty:=⟨fun
 |170=>some ([],S170)
 |_=>none,fun _=>false,77,0⟩
def U169:Cuts:=⟨fun
 |0=>some [(7,none)]
 |1=>some [(2,none),(3,none),(7,none),(8,none)]
 |2=>some [(2,none),(3,none),(7,none),(8,none)]
 |3=>some [(2,none),(3,none),(7,none),(8,none),(9,none)]
 |4=>some [(2,none),(3,none),(7,none),(8,none),(9,none)]
 |_=>none,fun
 |0=>some [(2,none),(3,none),(7,none),(8,none)]
 |2=>some [(2,none),(3,none),(7,none),(8,none),(9,none)]
 |4=>some [(2,none),(3,none),(7,none),(8,none),(9,none),(10,none),(11,none)]
 |_=>none,fun _=>none⟩
noncomputable def k169_j0:List Item:=[.code (sndC (sndC (sndC (sndC (sndC b169)))))]
noncomputable def k169_l0:List Item:=[.code (inC (inC (sndC (fstC (sndC (sndC (sndC (sndC b169)))))))), .inLoop (inC (inC (sndC (fstC (sndC (sndC (sndC (sndC b169)))))))), .inBlock 0, .code (sndC (sndC (sndC (sndC (sndC b169)))))]
noncomputable def k169_j1:List Item:=[.inLoop (inC (inC (sndC (fstC (sndC (sndC (sndC (sndC b169)))))))), .inBlock 0, .code (sndC (sndC (sndC (sndC (sndC b169)))))]
noncomputable def k169_j2:List Item:=[.inBlock 1, .inLoop (inC (inC (sndC (fstC (sndC (sndC (sndC (sndC b169)))))))), .inBlock 0, .code (sndC (sndC (sndC (sndC (sndC b169)))))]
noncomputable def k169_l2:List Item:=[.code (inC (inC (sndC (sndC (inC (sndC (inC (inC (sndC (fstC (sndC (sndC (sndC (sndC b169)))))))))))))), .inLoop (inC (inC (sndC (sndC (inC (sndC (inC (inC (sndC (fstC (sndC (sndC (sndC (sndC b169)))))))))))))), .inBlock 2, .inBlock 1, .inLoop (inC (inC (sndC (fstC (sndC (sndC (sndC (sndC b169)))))))), .inBlock 0, .code (sndC (sndC (sndC (sndC (sndC b169)))))]
noncomputable def k169_j3:List Item:=[.code (sndC (sndC (inC (inC (sndC (sndC (inC (sndC (inC (inC (sndC (fstC (sndC (sndC (sndC (sndC b169)))))))))))))))), .inLoop (inC (inC (sndC (sndC (inC (sndC (inC (inC (sndC (fstC (sndC (sndC (sndC (sndC b169)))))))))))))), .inBlock 2, .inBlock 1, .inLoop (inC (inC (sndC (fstC (sndC (sndC (sndC (sndC b169)))))))), .inBlock 0, .code (sndC (sndC (sndC (sndC (sndC b169)))))]
noncomputable def k169_j4:List Item:=[.inBlock 3, .code (sndC (sndC (inC (inC (sndC (sndC (inC (sndC (inC (inC (sndC (fstC (sndC (sndC (sndC (sndC b169)))))))))))))))), .inLoop (inC (inC (sndC (sndC (inC (sndC (inC (inC (sndC (fstC (sndC (sndC (sndC (sndC b169)))))))))))))), .inBlock 2, .inBlock 1, .inLoop (inC (inC (sndC (fstC (sndC (sndC (sndC (sndC b169)))))))), .inBlock 0, .code (sndC (sndC (sndC (sndC (sndC b169)))))]
noncomputable def k169_l4:List Item:=[.code (inC (inC (sndC (sndC (sndC (inC (fstC (sndC (inC (inC (sndC (sndC (inC (sndC (inC (inC (sndC (fstC (sndC (sndC (sndC (sndC b169)))))))))))))))))))))), .inLoop (inC (inC (sndC (sndC (sndC (inC (fstC (sndC (inC (inC (sndC (sndC (inC (sndC (inC (inC (sndC (fstC (sndC (sndC (sndC (sndC b169)))))))))))))))))))))), .inBlock 4, .inBlock 3, .code (sndC (sndC (inC (inC (sndC (sndC (inC (sndC (inC (inC (sndC (fstC (sndC (sndC (sndC (sndC b169)))))))))))))))), .inLoop (inC (inC (sndC (sndC (inC (sndC (inC (inC (sndC (fstC (sndC (sndC (sndC (sndC b169)))))))))))))), .inBlock 2, .inBlock 1, .inLoop (inC (inC (sndC (fstC (sndC (sndC (sndC (sndC b169)))))))), .inBlock 0, .code (sndC (sndC (sndC (sndC (sndC b169)))))]
def a169 (f:Func) (b:Int) (c:Int):List (AV Ty):=[.agg [.v (.string f.name), .v (.bool f.out), .sl false (3:Nat) f.params, .v (.int .i64 f.result), .sl false (44:Nat) f.blocks], .v (.int .i64 b), .v (.int .i64 c)]
noncomputable def R169 (f:Func) (b:Int) (c:Int):St Ty→EvR:=resT tb C169 Try.f169.results.toList (.fro 4) (a169 f b c)
def s169_l0 (f:Func) (b:Int) (c:Int) (v8:Bool) (h0:List Func) (h1:List Bool):St Ty:=St.mk [(2, .v (.int .i64 c)),(3, .ptr (0) [] (0) (0)),(7, .ref (1) [] none false),(8, .v (.bool v8))] [some (Root.mk (33) false h0),some (Root.mk (4) false h1)]
def s169_l2 (f:Func) (b:Int) (c:Int) (v8:Bool) (v9:Int) (h0:List Func) (h1:List Bool):St Ty:=St.mk [(2, .v (.int .i64 c)),(3, .ptr (0) [] (0) (0)),(7, .ref (1) [] none false),(8, .v (.bool v8)),(9, .v (.int .i64 v9))] [some (Root.mk (33) false h0),some (Root.mk (4) false h1)]
def s169_j0 (f:Func) (b:Int) (c:Int) (h0:List Bool):St Ty:=St.mk [(7, .ref (0) [] none false)] [some (Root.mk (4) false h0)]
def s169_j3 (f:Func) (b:Int) (c:Int) (v8:Bool) (v9:Int) (h0:List Func) (h1:List Bool):St Ty:=St.mk [(2, .v (.int .i64 c)),(3, .ptr (0) [] (0) (0)),(7, .ref (1) [] none false),(8, .v (.bool v8)),(9, .v (.int .i64 v9))] [some (Root.mk (33) false h0),some (Root.mk (4) false h1)]
def s169_l4 (f:Func) (b:Int) (c:Int) (v8:Bool) (v9:Int) (v10:List Int) (v11:Int) (h0:List Func) (h1:List Bool):St Ty:=St.mk [(2, .v (.int .i64 c)),(3, .ptr (0) [] (0) (0)),(7, .ref (1) [] none false),(8, .v (.bool v8)),(9, .v (.int .i64 v9)),(10, .sl false (3) v10),(11, .v (.int .i64 v11))] [some (Root.mk (33) false h0),some (Root.mk (4) false h1)]
def s169_j2 (f:Func) (b:Int) (c:Int) (v8:Bool) (h0:List Func) (h1:List Bool):St Ty:=St.mk [(2, .v (.int .i64 c)),(3, .ptr (0) [] (0) (0)),(7, .ref (1) [] none false),(8, .v (.bool v8))] [some (Root.mk (33) false h0),some (Root.mk (4) false h1)]
def s169_j4 (f:Func) (b:Int) (c:Int) (v8:Bool) (v9:Int) (h0:List Func) (h1:List Bool):St Ty:=St.mk [(2, .v (.int .i64 c)),(3, .ptr (0) [] (0) (0)),(7, .ref (1) [] none false),(8, .v (.bool v8)),(9, .v (.int .i64 v9))] [some (Root.mk (33) false h0),some (Root.mk (4) false h1)]
def s169_j1 (f:Func) (b:Int) (c:Int) (v8:Bool) (h0:List Func) (h1:List Bool):St Ty:=St.mk [(2, .v (.int .i64 c)),(3, .ptr (0) [] (0) (0)),(7, .ref (1) [] none false),(8, .v (.bool v8))] [some (Root.mk (33) false h0),some (Root.mk (4) false h1)]
theorem e169 (J f b c):run tb C169 U169 J (R169 f b c) 4096 [.code b169] ⟨slotsA (a169 f b c) 0 0,heapA (a169 f b c)⟩=
 if 0≤(↑f.blocks.length:Int)∧(↑f.blocks.length:Int)≤(↑f.blocks.length:Int)∧(↑f.blocks.length:Int)≤1099511627776∧(↑f.blocks.length:Int)*(↑1:Int)≤1099511627776 then
 if decide (b<0)=false then
 if decide (b≥(↑(List.replicate (↑f.blocks.length:Int).toNat false).length:Int))=false then
 if (b == c)=true then
 some (.sl false 4 (List.replicate (↑f.blocks.length:Int).toNat false),[.dead, .dead, .dead])
 else
 if 0≤b then
 if b<(↑(List.replicate (↑f.blocks.length:Int).toNat false).length:Int) then
 J k169_l0 (s169_l0 f b c true ([Func.mk f.name f.out f.params f.result f.blocks]) ((List.replicate (↑f.blocks.length:Int).toNat false).set (0+b.toNat) true))
 else none
 else none
 else
 some (.sl false 4 (List.replicate (↑f.blocks.length:Int).toNat false),[.dead, .dead, .dead])
 else
 some (.sl false 4 (List.replicate (↑f.blocks.length:Int).toNat false),[.dead, .dead, .dead])
 else none:=by kernel_rfl
theorem e169_l0 (J f b c v8 h0 h1):run tb C169 U169 J (R169 f b c) 4096 k169_l0 (s169_l0 f b c v8 h0 h1)=
 if v8=true then
 J k169_l2 (s169_l2 f b c false 0 h0 h1)
 else
 J k169_j0 (s169_j0 f b c h1):=by kernel_rfl
theorem e169_l2 (J f b c v8 v9 h0 h1):run tb C169 U169 J (R169 f b c) 4096 k169_l2 (s169_l2 f b c v8 v9 h0 h1)=
 if decide (v9<(↑h1.length:Int))=true then
 if 0≤v9 then
 if v9<(↑h1.length:Int) then
 if (!h1.getD (0+v9.toNat) false)=true then
 J k169_j3 (s169_j3 f b c v8 v9 h0 h1)
 else
 if okF (Func.mk (h0.getD (0) (Func.mk ByteArray.empty false [] 0 [])).name (h0.getD (0) (Func.mk ByteArray.empty false [] 0 [])).out (h0.getD (0) (Func.mk ByteArray.empty false [] 0 [])).params (h0.getD (0) (Func.mk ByteArray.empty false [] 0 [])).result (h0.getD (0) (Func.mk ByteArray.empty false [] 0 [])).blocks) then
 J k169_l4 (s169_l4 f b c v8 v9 (nextL (Func.mk (h0.getD (0) (Func.mk ByteArray.empty false [] 0 [])).name (h0.getD (0) (Func.mk ByteArray.empty false [] 0 [])).out (h0.getD (0) (Func.mk ByteArray.empty false [] 0 [])).params (h0.getD (0) (Func.mk ByteArray.empty false [] 0 [])).result (h0.getD (0) (Func.mk ByteArray.empty false [] 0 [])).blocks) v9) 0 h0 h1)
 else none
 else none
 else none
 else
 J k169_j2 (s169_j2 f b c v8 h0 h1):=by kernel_rfl
theorem e169_j0 (J f b c h0):run tb C169 U169 J (R169 f b c) 4096 k169_j0 (s169_j0 f b c h0)=
 some (.sl false (4) h0,[.dead, .dead, .dead]):=by kernel_rfl
theorem e169_j3 (J f b c v8 v9 h0 h1):run tb C169 U169 J (R169 f b c) 4096 k169_j3 (s169_j3 f b c v8 v9 h0 h1)=
 J k169_l2 (s169_l2 f b c v8 (IntKind.i64.wrap (v9+1)) h0 h1):=by kernel_rfl
theorem e169_l4 (J f b c v8 v9 v10 v11 h0 h1):run tb C169 U169 J (R169 f b c) 4096 k169_l4 (s169_l4 f b c v8 v9 v10 v11 h0 h1)=
 if decide (v11<(↑v10.length:Int))=true then
 if 0≤v11 then
 if v11<(↑v10.length:Int) then
 if (v10.getD v11.toNat 0 != c)=true then
 if 0≤v11 then
 if v11<(↑v10.length:Int) then
 if 0≤v10.getD v11.toNat 0 then
 if v10.getD v11.toNat 0<(↑h1.length:Int) then
 if (!h1.getD (0+Int.toNat (v10.getD v11.toNat 0)) false)=true then
 if 0≤v11 then
 if v11<(↑v10.length:Int) then
 if 0≤v10.getD v11.toNat 0 then
 if v10.getD v11.toNat 0<(↑h1.length:Int) then
 J k169_l4 (s169_l4 f b c true v9 v10 (IntKind.i64.wrap (v11+1)) h0 (h1.set (0+Int.toNat (v10.getD v11.toNat 0)) true))
 else none
 else none
 else none
 else none
 else
 J k169_l4 (s169_l4 f b c v8 v9 v10 (IntKind.i64.wrap (v11+1)) h0 h1)
 else none
 else none
 else none
 else none
 else
 J k169_l4 (s169_l4 f b c v8 v9 v10 (IntKind.i64.wrap (v11+1)) h0 h1)
 else none
 else none
 else
 J k169_j4 (s169_j4 f b c v8 v9 h0 h1):=by kernel_rfl
theorem e169_j2 (J f b c v8 h0 h1):run tb C169 U169 J (R169 f b c) 4096 k169_j2 (s169_j2 f b c v8 h0 h1)=
 J k169_j1 (s169_j1 f b c v8 h0 h1):=by kernel_rfl
theorem e169_j4 (J f b c v8 v9 h0 h1):run tb C169 U169 J (R169 f b c) 4096 k169_j4 (s169_j4 f b c v8 v9 h0 h1)=
 J k169_j3 (s169_j3 f b c v8 v9 h0 h1):=by kernel_rfl
theorem e169_j1 (J f b c v8 h0 h1):run tb C169 U169 J (R169 f b c) 4096 k169_j1 (s169_j1 f b c v8 h0 h1)=
 J k169_l0 (s169_l0 f b c v8 h0 h1):=by kernel_rfl

theorem in169:Entered 169:=⟨Try.f169,b169,by kernel_rfl,by kernel_rfl,by kernel_rfl⟩
theorem fn169 (f:Ev.Func) (b c:Int) {res:AV Ty} {outs:List (AV Ty)} (h:Ends C169 U169 (R169 f b c) [.code b169] ⟨slotsA (a169 f b c) 0 0,heapA (a169 f b c)⟩ (some (res,outs))):CallOk tb Try.prog 169 (a169 f b c) res outs:=by
 obtain ⟨n0,hn⟩:=h
 exact fn_ok (C:=C169) (U:=U169) (n:=0+n0) (q:=(.fro 4)) tbOk good (fun f mu S h=>by
  unfold C169 at h
  simp only at h
  split at h
  ·cases h;exact ⟨in170,S170_ok⟩
  ·cases h) mixed (fn:=Try.f169) (body:=b169) (by kernel_rfl) (by kernel_rfl) rfl rfl (by show 3≤77;omega) (hn 0)
section
variable {f:Ev.Func} {b c:Int}
def FromP (N q:Nat) (G:Bool×List Bool):Prop:=G.2.length=N∧q≤cntT G.2∧(G.1=true→q<cntT G.2)
theorem From.in (hf:okF f) {q a i:Nat} (hi:i<(nextL f a).length) {G:Bool×List Bool} (hG:FromP f.blocks.length q G): ∃G',FromP f.blocks.length q G'∧Goes C169 U169 (R169 f b c) k169_l4 (s169_l4 f b c G.1 a (nextL f a) i [f] G.2) k169_l4 (s169_l4 f b c G'.1 a (nextL f a) (i+1:Nat) [f] G'.2):=by
 have hl:=nextL_len hf a
 have w:IntKind.i64.wrap ((i:Int)+1)=((i+1:Nat):Int):=wrap_nat (by omega) (by omega)
 obtain ⟨n1,n2⟩:=nextL_in (getD_mem (d:=0) hi)
 obtain ⟨g1,g2,g3⟩:=hG
 by_cases h1:(nextL f a).getD i 0=c
 ·refine ⟨G,⟨g1,g2,g3⟩, .step fun J=> ?_⟩
  have h2:((nextL f a).getD i 0 != c)=false:=by rw [h1];simp
  rw [e169_l4]
  simp only [Int.toNat_natCast,w,Nat.zero_add,h2]
  simp (disch:=first|omega|assumption|(rw [dT];omega)|(rw [dF];omega)) only [↓iP,↓iN,iT,iF,wrap_up,tN,Nat.zero_add,Bool.false_eq_true]
 ·have h2:((nextL f a).getD i 0 != c)=true:=bne_iff_ne.2 h1
  cases h3:G.2.getD ((nextL f a).getD i 0).toNat false with
  |true=>
   refine ⟨G,⟨g1,g2,g3⟩, .step fun J=> ?_⟩
   rw [e169_l4]
   simp only [Int.toNat_natCast,w,Nat.zero_add,h2,h3]
   simp (disch:=first|omega|assumption|(rw [dT];omega)|(rw [dF];omega)) only [↓iP,↓iN,iT,iF,wrap_up,tN,Nat.zero_add,Bool.not_true,Bool.false_eq_true]
  |false=>
   have hc:=cntT_set (by omega) h3
   refine ⟨(true,G.2.set ((nextL f a).getD i 0).toNat true),⟨by simpa using g1,by simp only;omega,fun _=>by simp only;omega⟩, .step fun J=> ?_⟩
   rw [e169_l4]
   simp only [Int.toNat_natCast,w,Nat.zero_add,h2,h3]
   simp (disch:=first|omega|assumption|(rw [dT];omega)|(rw [dF];omega)) only [↓iP,↓iN,iT,iF,wrap_up,tN,Nat.zero_add,Bool.not_false]
theorem From.block (hf:okF f) {q a:Nat} (ha:a<f.blocks.length) {G:Bool×List Bool} (hG:FromP f.blocks.length q G): ∃G',FromP f.blocks.length q G'∧Goes C169 U169 (R169 f b c) k169_l2 (s169_l2 f b c G.1 a [f] G.2) k169_l2 (s169_l2 f b c G'.1 (a+1:Nat) [f] G'.2):=by
 have h0:=hf.2.1
 have hl:=hG.1
 have w:IntKind.i64.wrap ((a:Int)+1)=((a+1:Nat):Int):=wrap_nat (by omega) (by omega)
 have e0:(Func.mk f.name f.out f.params f.result f.blocks)=f:=rfl
 have back: ∀G':Bool×List Bool,Goes C169 U169 (R169 f b c) k169_j3 (s169_j3 f b c G'.1 a [f] G'.2) k169_l2 (s169_l2 f b c G'.1 (a+1:Nat) [f] G'.2):=fun G'=> .step fun J=>by
  rw [e169_j3,w]
 cases h1:G.2.getD a false with
 |false=>
  refine ⟨G,hG, .trans (.step fun J=> ?_) (back G)⟩
  rw [e169_l2]
  simp only [Int.toNat_natCast,Nat.zero_add,h1]
  simp (disch:=first|omega|assumption|(rw [dT];omega)|(rw [dF];omega)) only [↓iP,↓iN,iT,iF,wrap_up,tN,Nat.zero_add,Bool.not_false]
 |true=>
  obtain ⟨G',g1,g2⟩:=Goes.shape (C:=C169) (U:=U169) (Rt:=R169 f b c) (k:=k169_l4) (fun (i:Nat) (G:Bool×List Bool)=>s169_l4 f b c G.1 a (nextL f a) i [f] G.2) (nextL f a).length (FromP f.blocks.length q) (fun i G hi hP=>From.in hf hi hP) (nextL f a).length 0 G (by omega) hG
  refine ⟨G',g1,Goes.trans (k':=k169_l4) (s':=s169_l4 f b c G.1 a (nextL f a) (0:Nat) [f] G.2) (.step fun J=> ?_) (g2.trans (.trans (k':=k169_j4) (s':=s169_j4 f b c G'.1 a [f] G'.2) (.step fun J=> ?_) (.trans (.step fun J=>e169_j4 ..) (back G'))))⟩
  ·rw [e169_l2]
   simp only [Int.toNat_natCast,Nat.zero_add,h1,List.getD_cons_zero]
   rw [e0]
   simp (disch:=first|omega|assumption|(rw [dT];omega)|(rw [dF];omega)) only [↓iP,↓iN,iT,iF,wrap_up,tN,Nat.zero_add,hf,Bool.not_true,Bool.false_eq_true]
   rfl
  ·rw [e169_l4]
   simp only [Int.toNat_natCast,Nat.zero_add]
   simp (disch:=first|omega|assumption|(rw [dT];omega)|(rw [dF];omega)) only [↓iP,↓iN,iT,iF,wrap_up,tN,Nat.zero_add]
theorem From.pass (hf:okF f) {h1:List Bool} (hl:h1.length=f.blocks.length): ∃G',FromP f.blocks.length (cntT h1) G'∧Goes C169 U169 (R169 f b c) k169_l0 (s169_l0 f b c true [f] h1) k169_l0 (s169_l0 f b c G'.1 [f] G'.2):=by
 obtain ⟨G',g1,g2⟩:=Goes.shape (C:=C169) (U:=U169) (Rt:=R169 f b c) (k:=k169_l2) (fun (i:Nat) (G:Bool×List Bool)=>s169_l2 f b c G.1 i [f] G.2) f.blocks.length (FromP f.blocks.length (cntT h1)) (fun i G hi hP=>From.block hf hi hP) f.blocks.length 0 (false,h1) (by omega) ⟨hl,Nat.le_refl _,fun e=>by cases e⟩
 refine ⟨G',g1,Goes.trans (k':=k169_l2) (s':=s169_l2 f b c false (0:Nat) [f] h1) (.step fun J=> ?_) (g2.trans (.trans (k':=k169_j2) (s':=s169_j2 f b c G'.1 [f] G'.2) (.step fun J=> ?_) (.trans (.step fun J=>e169_j2 ..) (.step fun J=>e169_j1 ..))))⟩
 ·rw [e169_l0]
  simp (disch:=first|omega|assumption|(rw [dT];omega)|(rw [dF];omega)) only [↓iP,↓iN,iT,iF,wrap_up,tN,Nat.zero_add]
  rfl
 ·have:=g1.1
  rw [e169_l2]
  simp only [Int.toNat_natCast,Nat.zero_add]
  simp (disch:=first|omega|assumption|(rw [dT];omega)|(rw [dF];omega)) only [↓iP,↓iN,iT,iF,wrap_up,tN,Nat.zero_add]
theorem from_ex (f:Ev.Func) (b c:Int) (hf:okF f): ∃l:List Bool,l.length=f.blocks.length∧CallOk tb Try.prog 169 (a169 f b c) (.sl false 4 l) [.dead, .dead, .dead]:=by
 have h0:=hf.2.1
 have c1:0≤(f.blocks.length:Int)∧(f.blocks.length:Int)≤(f.blocks.length:Int)∧(f.blocks.length:Int)≤1099511627776∧(f.blocks.length:Int)*((1:Nat):Int)≤1099511627776:=by omega
 have hrep:(List.replicate f.blocks.length false).length=f.blocks.length:=List.length_replicate
 by_cases h1:0≤b∧b<f.blocks.length∧b≠c
 ·obtain ⟨h1,h2,h3⟩:=h1
  have h4:(b == c)=false:=beq_eq_false_iff_ne.2 h3
  obtain ⟨y,y1,y2,y3⟩:=Goes.loop (C:=C169) (U:=U169) (Rt:=R169 f b c) (k:=k169_l0) (fun x:Bool×List Bool=>s169_l0 f b c x.1 [f] x.2) (fun x=>x.2.length=f.blocks.length) (fun x=>x.1=false) (fun x=>match x.1 with
   |true=>f.blocks.length-cntT x.2+1
   |false=>0) (fun x hx hfin=>by
    obtain ⟨x1,x2⟩:=x
    have hx1:x1=true:=by cases x1<;>simp_all
    subst hx1
    obtain ⟨G,g1,g2⟩:=From.pass (b:=b) (c:=c) (h1:=x2) hf hx
    refine ⟨G,g1.1,?_,g2⟩
    have hc:=cntT_le G.2
    rw [g1.1] at hc
    cases hG:G.1 with
    |true=>
     have:=g1.2.2 hG
     simp only
     omega
    |false=>
     simp only
     omega) _ (true,(List.replicate f.blocks.length false).set b.toNat true) (Nat.lt_succ_self _) (by simp)
  refine ⟨y.2,y1,fn169 f b c (Goes.ends (.step fun J=> ?_) (y3.ends (Goes.ends (k':=k169_j0) (s':=s169_j0 f b c y.2) (.step fun J=> ?_) (.step fun J=>e169_j0 ..))))⟩
  ·rw [e169]
   simp only [Int.toNat_natCast,Nat.zero_add,hrep,h4]
   simp (disch:=first|omega|assumption|(rw [dT];omega)|(rw [dF];omega)) only [↓iP,↓iN,iT,iF,wrap_up,tN,Nat.zero_add,c1,and_self,Bool.false_eq_true]
  ·have y2:y.1=false:=y2
   simp only [y2]
   rw [e169_l0]
   simp (disch:=first|omega|assumption|(rw [dT];omega)|(rw [dF];omega)) only [↓iP,↓iN,iT,iF,wrap_up,tN,Nat.zero_add,Bool.false_eq_true]
 ·refine ⟨List.replicate f.blocks.length false,hrep,fn169 f b c (.step fun J=> ?_)⟩
  rw [e169]
  simp only [Int.toNat_natCast,Nat.zero_add,hrep]
  by_cases h2:b<0
  ·simp (disch:=first|omega|assumption|(rw [dT];omega)|(rw [dF];omega)) only [↓iP,↓iN,iT,iF,wrap_up,tN,Nat.zero_add,c1,and_self]
   rfl
  ·by_cases h3:b≥f.blocks.length
   ·simp (disch:=first|omega|assumption|(rw [dT];omega)|(rw [dF];omega)) only [↓iP,↓iN,iT,iF,wrap_up,tN,Nat.zero_add,c1,and_self]
    rfl
   ·have h4:(b == c)=true:=beq_iff_eq.2 (Classical.byContradiction fun e=>h1 ⟨by omega,by omega,e⟩)
    simp only [h4]
    simp (disch:=first|omega|assumption|(rw [dT];omega)|(rw [dF];omega)) only [↓iP,↓iN,iT,iF,wrap_up,tN,Nat.zero_add,c1,and_self]
    rfl
end
noncomputable def fromL (f:Ev.Func) (b c:Int):List Bool:=if h:okF f then Classical.choose (from_ex f b c h) else []
theorem fromL_ok {f:Ev.Func} (h:okF f) (b c:Int):(fromL f b c).length=f.blocks.length∧CallOk tb Try.prog 169 (a169 f b c) (.sl false 4 (fromL f b c)) [.dead, .dead, .dead]:=by
 unfold fromL
 rw [dif_pos h]
 exact Classical.choose_spec (from_ex f b c h)
noncomputable def S169:List (AV Ty)→T (AV Ty×List (AV Ty))
 |[.agg x, .v (.int .i64 b), .v (.int .i64 c)]=>match cod33.dec false x with
  |some f=> .ite (okF f) (okF.dec f) (.ret (.sl false 4 (fromL f b c),[.dead, .dead, .dead])) .fail
  |none=> .fail
 |_=> .fail
theorem S169_ok (l:List (AV Ty)) (r:AV Ty) (outs:List (AV Ty)) (h:(S169 l).val=some (r,outs)):CallOk tb Try.prog 169 l r outs:=by
 unfold S169 at h
 split at h
 ·rename_i x b c
  split at h
  ·rename_i f e1
   rcases ite_val h with ⟨e,h⟩|⟨_,h⟩
   ·cases h
    have h1:=cod33_ok.dec false x f e1
    subst h1
    exact (fromL_ok e b c).2
   ·cases h
  ·cases h
 ·cases h
end Go.Proofs.Ytggibjbcbicpjaa.Ev
namespace Go.Proofs.Ytggibjbcbicpjaa.Ev
open Go
set_option linter.unusedVariables false
set_option linter.unusedSimpArgs false
noncomputable def b124:Code:=bodyOf Try.f124
noncomputable def C124:Cfg Ty:=⟨fun
 |28=>some ([],S28)
 |_=>none,fun _=>false,120,0⟩
def U124:Cuts:=⟨fun
 |0=>some [(1,none)]
 |2=>some [(1,none)]
 |4=>some [(1,none)]
 |6=>some []
 |_=>none,fun
 |0=>some [(1,none),(3,none)]
 |2=>some [(1,none),(4,none)]
 |4=>some [(1,none),(6,none)]
 |6=>some [(1,none),(8,none)]
 |_=>none,fun _=>none⟩
noncomputable def k124_j0:List Item:=[.code (sndC (sndC (sndC b124)))]
noncomputable def k124_l0:List Item:=[.code (inC (inC (sndC (fstC (sndC (sndC b124)))))), .inLoop (inC (inC (sndC (fstC (sndC (sndC b124)))))), .inBlock 0, .code (sndC (sndC (sndC b124)))]
noncomputable def k124_j2:List Item:=[.code (sndC (sndC (sndC (sndC b124))))]
noncomputable def k124_l2:List Item:=[.code (inC (inC (sndC (fstC (sndC (sndC (sndC b124))))))), .inLoop (inC (inC (sndC (fstC (sndC (sndC (sndC b124))))))), .inBlock 2, .code (sndC (sndC (sndC (sndC b124))))]
noncomputable def k124_j4:List Item:=[.code (sndC (sndC (sndC (sndC (sndC b124)))))]
noncomputable def k124_l4:List Item:=[.code (inC (inC (sndC (fstC (sndC (sndC (sndC (sndC b124)))))))), .inLoop (inC (inC (sndC (fstC (sndC (sndC (sndC (sndC b124)))))))), .inBlock 4, .code (sndC (sndC (sndC (sndC (sndC b124)))))]
noncomputable def k124_j6:List Item:=[.code (sndC (sndC (sndC (sndC (sndC (sndC b124))))))]
noncomputable def k124_l6:List Item:=[.code (inC (inC (sndC (fstC (sndC (sndC (sndC (sndC (sndC b124))))))))), .inLoop (inC (inC (sndC (fstC (sndC (sndC (sndC (sndC (sndC b124))))))))), .inBlock 6, .code (sndC (sndC (sndC (sndC (sndC (sndC b124))))))]
def a124 (m:Module):List (AV Ty):=[.agg [.sl false (91:Nat) m.externs, .sl false (94:Nat) m.globals, .sl false (96:Nat) m.tables, .sl false (33:Nat) m.funcs]]
noncomputable def R124 (m:Module):St Ty→EvR:=resT tb C124 Try.f124.results.toList .keep (a124 m)
def s124_l0 (m:Module) (v3:Int) (h0:List Module):St Ty:=St.mk [(1, .ptr (0) [] (0) (0)),(3, .v (.int .i64 v3))] [some (Root.mk (27) false h0)]
def s124_j0 (m:Module) (h0:List Module):St Ty:=St.mk [(1, .ptr (0) [] (0) (0))] [some (Root.mk (27) false h0)]
def s124_l2 (m:Module) (v4:Int) (h0:List Module):St Ty:=St.mk [(1, .ptr (0) [] (0) (0)),(4, .v (.int .i64 v4))] [some (Root.mk (27) false h0)]
def s124_j2 (m:Module) (h0:List Module):St Ty:=St.mk [(1, .ptr (0) [] (0) (0))] [some (Root.mk (27) false h0)]
def s124_l4 (m:Module) (v6:Int) (h0:List Module):St Ty:=St.mk [(1, .ptr (0) [] (0) (0)),(6, .v (.int .i64 v6))] [some (Root.mk (27) false h0)]
def s124_j4 (m:Module) (h0:List Module):St Ty:=St.mk [(1, .ptr (0) [] (0) (0))] [some (Root.mk (27) false h0)]
def s124_l6 (m:Module) (v8:Int) (h0:List Module):St Ty:=St.mk [(1, .ptr (0) [] (0) (0)),(8, .v (.int .i64 v8))] [some (Root.mk (27) false h0)]
def s124_j6 (m:Module):St Ty:=St.mk [] []
theorem e124 (J m):run tb C124 U124 J (R124 m) 4096 [.code b124] ⟨slotsA (a124 m) 0 0,heapA (a124 m)⟩=
 if decide ((↑m.funcs.length:Int)>24)=false then
 if decide ((↑m.externs.length:Int)>12)=false then
 if decide ((↑m.globals.length:Int)>12)=false then
 if decide ((↑m.tables.length:Int)>6)=true then
 some (.v (.bool false),[.dead])
 else
 J k124_l0 (s124_l0 m 0 ([Module.mk m.externs m.globals m.tables m.funcs]))
 else
 some (.v (.bool false),[.dead])
 else
 some (.v (.bool false),[.dead])
 else
 some (.v (.bool false),[.dead]):=by kernel_rfl
theorem e124_l0 (J m v3 h0):run tb C124 U124 J (R124 m) 4096 k124_l0 (s124_l0 m v3 h0)=
 if decide (v3<(↑(h0.getD (0) (Module.mk [] [] [] [])).externs.length:Int))=true then
 if 0≤v3 then
 if v3<(↑(h0.getD (0) (Module.mk [] [] [] [])).externs.length:Int) then
 if decide ((↑((h0.getD (0) (Module.mk [] [] [] [])).externs.getD v3.toNat (Extern.mk ByteArray.empty [] 0)).params.length:Int)>5)=true then
 some (.v (.bool false),[.dead])
 else
 J k124_l0 (s124_l0 m (IntKind.i64.wrap (v3+1)) h0)
 else none
 else none
 else
 J k124_j0 (s124_j0 m h0):=by kernel_rfl
theorem e124_j0 (J m h0):run tb C124 U124 J (R124 m) 4096 k124_j0 (s124_j0 m h0)=
 J k124_l2 (s124_l2 m 0 h0):=by kernel_rfl
theorem e124_l2 (J m v4 h0):run tb C124 U124 J (R124 m) 4096 k124_l2 (s124_l2 m v4 h0)=
 if decide (v4<(↑(h0.getD (0) (Module.mk [] [] [] [])).globals.length:Int))=true then
 if 0≤v4 then
 if v4<(↑(h0.getD (0) (Module.mk [] [] [] [])).globals.length:Int) then
 if decide ((↑((h0.getD (0) (Module.mk [] [] [] [])).globals.getD v4.toNat (Global.mk ByteArray.empty [])).cells.length:Int)<1)=false then
 if decide ((↑((h0.getD (0) (Module.mk [] [] [] [])).globals.getD v4.toNat (Global.mk ByteArray.empty [])).cells.length:Int)>16)=true then
 some (.v (.bool false),[.dead])
 else
 J k124_l2 (s124_l2 m (IntKind.i64.wrap (v4+1)) h0)
 else
 some (.v (.bool false),[.dead])
 else none
 else none
 else
 J k124_j2 (s124_j2 m h0):=by kernel_rfl
theorem e124_j2 (J m h0):run tb C124 U124 J (R124 m) 4096 k124_j2 (s124_j2 m h0)=
 J k124_l4 (s124_l4 m 0 h0):=by kernel_rfl
theorem e124_l4 (J m v6 h0):run tb C124 U124 J (R124 m) 4096 k124_l4 (s124_l4 m v6 h0)=
 if decide (v6<(↑(h0.getD (0) (Module.mk [] [] [] [])).tables.length:Int))=true then
 if 0≤v6 then
 if v6<(↑(h0.getD (0) (Module.mk [] [] [] [])).tables.length:Int) then
 if decide ((↑((h0.getD (0) (Module.mk [] [] [] [])).tables.getD v6.toNat (Table.mk ByteArray.empty [])).funcs.length:Int)<1)=false then
 if decide ((↑((h0.getD (0) (Module.mk [] [] [] [])).tables.getD v6.toNat (Table.mk ByteArray.empty [])).funcs.length:Int)>12)=true then
 some (.v (.bool false),[.dead])
 else
 J k124_l4 (s124_l4 m (IntKind.i64.wrap (v6+1)) h0)
 else
 some (.v (.bool false),[.dead])
 else none
 else none
 else
 J k124_j4 (s124_j4 m h0):=by kernel_rfl
theorem e124_j4 (J m h0):run tb C124 U124 J (R124 m) 4096 k124_j4 (s124_j4 m h0)=
 J k124_l6 (s124_l6 m 0 h0):=by kernel_rfl
theorem e124_l6 (J m v8 h0):run tb C124 U124 J (R124 m) 4096 k124_l6 (s124_l6 m v8 h0)=
 if decide (v8<(↑(h0.getD (0) (Module.mk [] [] [] [])).funcs.length:Int))=true then
 if 0≤v8 then
 if v8<(↑(h0.getD (0) (Module.mk [] [] [] [])).funcs.length:Int) then
 if decide ((↑((h0.getD (0) (Module.mk [] [] [] [])).funcs.getD v8.toNat (Func.mk ByteArray.empty false [] 0 [])).params.length:Int)>5)=false then
 if decide ((↑((h0.getD (0) (Module.mk [] [] [] [])).funcs.getD v8.toNat (Func.mk ByteArray.empty false [] 0 [])).blocks.length:Int)<1)=false then
 if decide ((↑((h0.getD (0) (Module.mk [] [] [] [])).funcs.getD v8.toNat (Func.mk ByteArray.empty false [] 0 [])).blocks.length:Int)>40)=false then
 if okF (Func.mk ((h0.getD (0) (Module.mk [] [] [] [])).funcs.getD v8.toNat (Func.mk ByteArray.empty false [] 0 [])).name ((h0.getD (0) (Module.mk [] [] [] [])).funcs.getD v8.toNat (Func.mk ByteArray.empty false [] 0 [])).out ((h0.getD (0) (Module.mk [] [] [] [])).funcs.getD v8.toNat (Func.mk ByteArray.empty false [] 0 [])).params ((h0.getD (0) (Module.mk [] [] [] [])).funcs.getD v8.toNat (Func.mk ByteArray.empty false [] 0 [])).result ((h0.getD (0) (Module.mk [] [] [] [])).funcs.getD v8.toNat (Func.mk ByteArray.empty false [] 0 [])).blocks) then
 if decide ((↑(szT ((h0.getD (0) (Module.mk [] [] [] [])).funcs.getD v8.toNat (Func.mk ByteArray.empty false [] 0 [])).blocks):Int)>300)=true then
 some (.v (.bool false),[.dead])
 else
 J k124_l6 (s124_l6 m (IntKind.i64.wrap (v8+1)) h0)
 else none
 else
 some (.v (.bool false),[.dead])
 else
 some (.v (.bool false),[.dead])
 else
 some (.v (.bool false),[.dead])
 else none
 else none
 else
 J k124_j6 (s124_j6 m):=by kernel_rfl
theorem e124_j6 (J m):run tb C124 U124 J (R124 m) 4096 k124_j6 (s124_j6 m)=
 some (.v (.bool true),[.dead]):=by kernel_rfl

theorem in124:Entered 124:=⟨Try.f124,b124,by kernel_rfl,by kernel_rfl,by kernel_rfl⟩
theorem fn124 (m:Ev.Module) {res:AV Ty} {outs:List (AV Ty)} (h:Ends C124 U124 (R124 m) [.code b124] ⟨slotsA (a124 m) 0 0,heapA (a124 m)⟩ (some (res,outs))):CallOk tb Try.prog 124 (a124 m) res outs:=by
 obtain ⟨n0,hn⟩:=h
 exact fn_ok (C:=C124) (U:=U124) (n:=0+n0) (q:= .keep) tbOk good (fun f mu S h=>by
  unfold C124 at h
  simp only at h
  split at h
  ·cases h;exact ⟨in28,S28_ok⟩
  ·cases h) mixed (fn:=Try.f124) (body:=b124) (by kernel_rfl) (by kernel_rfl) rfl rfl (by show 1≤120;omega) (hn 0)
section
variable {m:Ev.Module}
theorem Limits.x (h:okM m) {i:Nat} (hi:i<m.externs.length):Way C124 U124 (R124 m) (rD false) k124_l0 (s124_l0 m i [m]) k124_l0 (s124_l0 m (i+1:Nat) [m]) True:=by
 have hl:=h.1.1
 refine Way.of (fun J=>e124_l0 J m i [m]) ?_
 have w:IntKind.i64.wrap ((i:Int)+1)=((i+1:Nat):Int):=wrap_nat (by omega) (by omega)
 simp only [List.getD_cons_zero,Int.toNat_natCast,w]
 repeat' first|refine tree_qt (fun _=> ?_) (fun _=> ?_)|refine tree_qf (fun _=> ?_) (fun _=> ?_)|refine tree_nt (fun _=> ?_) (fun _=> ?_)|refine tree_nf (fun _=> ?_) (fun _=> ?_)|refine tree_et (fun _=> ?_) (fun _=> ?_)|refine tree_ef (fun _=> ?_) (fun _=> ?_)|refine tree_dt (fun _=> ?_) (fun _=> ?_)|refine tree_df (fun _=> ?_) (fun _=> ?_)|refine tree_bt (fun _=> ?_) (fun _=> ?_)|refine tree_bf (fun _=> ?_) (fun _=> ?_)|refine tree_ite (fun _=> ?_) (fun _=> ?_)
 all_goals first|exact WayT.no (fun J=>rfl)|exact WayT.yes (fun J=>rfl) (trivial)|(exfalso;omega)
theorem Limits.g (h:okM m) {i:Nat} (hi:i<m.globals.length):Way C124 U124 (R124 m) (rD false) k124_l2 (s124_l2 m i [m]) k124_l2 (s124_l2 m (i+1:Nat) [m]) True:=by
 have hl:=h.1.2.1
 refine Way.of (fun J=>e124_l2 J m i [m]) ?_
 have w:IntKind.i64.wrap ((i:Int)+1)=((i+1:Nat):Int):=wrap_nat (by omega) (by omega)
 simp only [List.getD_cons_zero,Int.toNat_natCast,w]
 repeat' first|refine tree_qt (fun _=> ?_) (fun _=> ?_)|refine tree_qf (fun _=> ?_) (fun _=> ?_)|refine tree_nt (fun _=> ?_) (fun _=> ?_)|refine tree_nf (fun _=> ?_) (fun _=> ?_)|refine tree_et (fun _=> ?_) (fun _=> ?_)|refine tree_ef (fun _=> ?_) (fun _=> ?_)|refine tree_dt (fun _=> ?_) (fun _=> ?_)|refine tree_df (fun _=> ?_) (fun _=> ?_)|refine tree_bt (fun _=> ?_) (fun _=> ?_)|refine tree_bf (fun _=> ?_) (fun _=> ?_)|refine tree_ite (fun _=> ?_) (fun _=> ?_)
 all_goals first|exact WayT.no (fun J=>rfl)|exact WayT.yes (fun J=>rfl) (trivial)|(exfalso;omega)
theorem Limits.t (h:okM m) {i:Nat} (hi:i<m.tables.length):Way C124 U124 (R124 m) (rD false) k124_l4 (s124_l4 m i [m]) k124_l4 (s124_l4 m (i+1:Nat) [m]) True:=by
 have hl:=h.1.2.2.1
 refine Way.of (fun J=>e124_l4 J m i [m]) ?_
 have w:IntKind.i64.wrap ((i:Int)+1)=((i+1:Nat):Int):=wrap_nat (by omega) (by omega)
 simp only [List.getD_cons_zero,Int.toNat_natCast,w]
 repeat' first|refine tree_qt (fun _=> ?_) (fun _=> ?_)|refine tree_qf (fun _=> ?_) (fun _=> ?_)|refine tree_nt (fun _=> ?_) (fun _=> ?_)|refine tree_nf (fun _=> ?_) (fun _=> ?_)|refine tree_et (fun _=> ?_) (fun _=> ?_)|refine tree_ef (fun _=> ?_) (fun _=> ?_)|refine tree_dt (fun _=> ?_) (fun _=> ?_)|refine tree_df (fun _=> ?_) (fun _=> ?_)|refine tree_bt (fun _=> ?_) (fun _=> ?_)|refine tree_bf (fun _=> ?_) (fun _=> ?_)|refine tree_ite (fun _=> ?_) (fun _=> ?_)
 all_goals first|exact WayT.no (fun J=>rfl)|exact WayT.yes (fun J=>rfl) (trivial)|(exfalso;omega)
theorem Limits.f (h:okM m) {i:Nat} (hi:i<m.funcs.length):Way C124 U124 (R124 m) (rD false) k124_l6 (s124_l6 m i [m]) k124_l6 (s124_l6 m (i+1:Nat) [m]) (1≤(m.funcs.getD i (Func.mk ByteArray.empty false [] 0 [])).blocks.length):=by
 have hl:=h.1.2.2.2
 have hf:=h.f hi
 refine Way.of (fun J=>e124_l6 J m i [m]) ?_
 have w:IntKind.i64.wrap ((i:Int)+1)=((i+1:Nat):Int):=wrap_nat (by omega) (by omega)
 simp only [List.getD_cons_zero,Int.toNat_natCast,w]
 repeat' first|refine tree_qt (fun _=> ?_) (fun _=> ?_)|refine tree_qf (fun _=> ?_) (fun _=> ?_)|refine tree_nt (fun _=> ?_) (fun _=> ?_)|refine tree_nf (fun _=> ?_) (fun _=> ?_)|refine tree_et (fun _=> ?_) (fun _=> ?_)|refine tree_ef (fun _=> ?_) (fun _=> ?_)|refine tree_dt (fun _=> ?_) (fun _=> ?_)|refine tree_df (fun _=> ?_) (fun _=> ?_)|refine tree_bt (fun _=> ?_) (fun _=> ?_)|refine tree_bf (fun _=> ?_) (fun _=> ?_)|refine tree_ite (fun _=> ?_) (fun _=> ?_)
 all_goals first|exact WayT.no (fun J=>rfl)|exact WayT.yes (fun J=>rfl) (by omega)|(exfalso;omega)|exact absurd hf ‹_›
end
def LimitsQ (m:Ev.Module):Prop:= ∀i,i<m.funcs.length→1≤(m.funcs.getD i (Func.mk ByteArray.empty false [] 0 [])).blocks.length
theorem limits_ok (m:Ev.Module) (h:okM m): ∃b,Tells 124 (a124 m) [.dead] (LimitsQ m) b:=by
 have:Says C124 U124 (R124 m) rD [.code b124] ⟨slotsA (a124 m) 0 0,heapA (a124 m)⟩ (LimitsQ m):=by
  refine (Way.says (k':=k124_l0) (s':=s124_l0 m (0:Nat) [m]) (Q:=True) (Q':=LimitsQ m) (Way.of (fun J=>e124 J m) ?_) fun _=> ?_).mono fun q=>q.2
  ·repeat' first|refine tree_qt (fun _=> ?_) (fun _=> ?_)|refine tree_qf (fun _=> ?_) (fun _=> ?_)|refine tree_nt (fun _=> ?_) (fun _=> ?_)|refine tree_nf (fun _=> ?_) (fun _=> ?_)|refine tree_et (fun _=> ?_) (fun _=> ?_)|refine tree_ef (fun _=> ?_) (fun _=> ?_)|refine tree_dt (fun _=> ?_) (fun _=> ?_)|refine tree_df (fun _=> ?_) (fun _=> ?_)|refine tree_bt (fun _=> ?_) (fun _=> ?_)|refine tree_bf (fun _=> ?_) (fun _=> ?_)|refine tree_ite (fun _=> ?_) (fun _=> ?_)
   all_goals first|exact WayT.no (fun J=>rfl)|exact WayT.yes (fun J=>rfl) trivial
  refine (Way.says (Q':=LimitsQ m) ((Way.upto (fun i=>s124_l0 m i [m]) _ (fun _=>True) (fun i hi _=>Limits.x h hi) _ (Nat.le_refl _)).mono fun _=>trivial) fun _=> ?_).mono fun q=>q.2
  refine Goes.says (k':=k124_l2) (s':=s124_l2 m (0:Nat) [m]) (.trans (k':=k124_j0) (s':=s124_j0 m [m]) (.step fun J=> ?_) (.step fun J=>e124_j0 ..)) ?_
  ·rw [e124_l0]
   simp only [List.getD_cons_zero,Int.toNat_natCast]
   simp (disch:=first|omega|assumption|(rw [dT];omega)|(rw [dF];omega)) only [↓iP,↓iN,iT,iF,wrap_up,tN,Nat.zero_add]
  refine (Way.says (Q':=LimitsQ m) ((Way.upto (fun i=>s124_l2 m i [m]) _ (fun _=>True) (fun i hi _=>Limits.g h hi) _ (Nat.le_refl _)).mono fun _=>trivial) fun _=> ?_).mono fun q=>q.2
  refine Goes.says (k':=k124_l4) (s':=s124_l4 m (0:Nat) [m]) (.trans (k':=k124_j2) (s':=s124_j2 m [m]) (.step fun J=> ?_) (.step fun J=>e124_j2 ..)) ?_
  ·rw [e124_l2]
   simp only [List.getD_cons_zero,Int.toNat_natCast]
   simp (disch:=first|omega|assumption|(rw [dT];omega)|(rw [dF];omega)) only [↓iP,↓iN,iT,iF,wrap_up,tN,Nat.zero_add]
  refine (Way.says (Q':=LimitsQ m) ((Way.upto (fun i=>s124_l4 m i [m]) _ (fun _=>True) (fun i hi _=>Limits.t h hi) _ (Nat.le_refl _)).mono fun _=>trivial) fun _=> ?_).mono fun q=>q.2
  refine Goes.says (k':=k124_l6) (s':=s124_l6 m (0:Nat) [m]) (.trans (k':=k124_j4) (s':=s124_j4 m [m]) (.step fun J=> ?_) (.step fun J=>e124_j4 ..)) ?_
  ·rw [e124_l4]
   simp only [List.getD_cons_zero,Int.toNat_natCast]
   simp (disch:=first|omega|assumption|(rw [dT];omega)|(rw [dF];omega)) only [↓iP,↓iN,iT,iF,wrap_up,tN,Nat.zero_add]
  refine (Way.says (Q':=True) (Way.upto (fun i=>s124_l6 m i [m]) _ _ (fun i hi _=>Limits.f h hi) _ (Nat.le_refl _)) fun _=> ?_).mono fun q=>q.1
  refine Goes.says (k':=k124_j6) (s':=s124_j6 m) (.step fun J=> ?_) (.yes (.step fun J=>e124_j6 ..) trivial)
  rw [e124_l6]
  simp only [List.getD_cons_zero,Int.toNat_natCast]
  simp (disch:=first|omega|assumption|(rw [dT];omega)|(rw [dF];omega)) only [↓iP,↓iN,iT,iF,wrap_up,tN,Nat.zero_add]
 obtain ⟨b,h1,h2⟩:=this
 exact ⟨b,fn124 m h1,h2⟩
def SymQ (m:Ev.Module) (a:Ev.Ins):Prop:=0≤a.sym_∧(a.op=2→a.sym_<m.funcs.length)∧(a.op=22→a.sym_<m.funcs.length)∧(a.op=3→a.sym_<m.globals.length)∧(a.op=23→a.sym_<m.externs.length)∧(a.op=24→a.sym_<m.tables.length)
def FnS (m:Ev.Module) (f:Ev.Func):Prop:= ∀b,b<f.blocks.length→ ∀k,k<(f.blocks.getD b (Block.mk [])).ins.length→SymQ m ((f.blocks.getD b (Block.mk [])).ins.getD k (Ins.mk 0 0 0 0 0 [] []))
noncomputable def b127:Code:=bodyOf Try.f127
def C127:Cfg Ty:=⟨fun _=>none,fun _=>false,125,0⟩
def U127:Cuts:=⟨fun
 |0=>some [(1,none)]
 |1=>some [(1,none),(3,none)]
 |2=>some [(1,none),(3,none)]
 |4=>some []
 |5=>some [(1,none),(6,none)]
 |6=>some [(1,none),(6,none)]
 |7=>some [(1,none),(6,none),(7,none)]
 |8=>some [(1,none),(6,none),(7,none)]
 |_=>none,fun
 |0=>some [(1,none),(3,none)]
 |2=>some [(1,none),(3,none),(4,none)]
 |4=>some [(1,none),(6,none)]
 |6=>some [(1,none),(6,none),(7,none)]
 |8=>some [(1,none),(6,none),(7,none),(8,none)]
 |_=>none,fun _=>none⟩
noncomputable def k127_j0:List Item:=[.code (sndC (sndC b127))]
noncomputable def k127_l0:List Item:=[.code (inC (inC (sndC (fstC (sndC b127))))), .inLoop (inC (inC (sndC (fstC (sndC b127))))), .inBlock 0, .code (sndC (sndC b127))]
noncomputable def k127_j1:List Item:=[.code (sndC (sndC (inC (inC (sndC (fstC (sndC b127))))))), .inLoop (inC (inC (sndC (fstC (sndC b127))))), .inBlock 0, .code (sndC (sndC b127))]
noncomputable def k127_j2:List Item:=[.inBlock 1, .code (sndC (sndC (inC (inC (sndC (fstC (sndC b127))))))), .inLoop (inC (inC (sndC (fstC (sndC b127))))), .inBlock 0, .code (sndC (sndC b127))]
noncomputable def k127_l2:List Item:=[.code (inC (inC (sndC (inC (fstC (sndC (inC (inC (sndC (fstC (sndC b127))))))))))), .inLoop (inC (inC (sndC (inC (fstC (sndC (inC (inC (sndC (fstC (sndC b127))))))))))), .inBlock 2, .inBlock 1, .code (sndC (sndC (inC (inC (sndC (fstC (sndC b127))))))), .inLoop (inC (inC (sndC (fstC (sndC b127))))), .inBlock 0, .code (sndC (sndC b127))]
noncomputable def k127_j4:List Item:=[.code (sndC (sndC (sndC b127)))]
noncomputable def k127_l4:List Item:=[.code (inC (inC (sndC (fstC (sndC (sndC b127)))))), .inLoop (inC (inC (sndC (fstC (sndC (sndC b127)))))), .inBlock 4, .code (sndC (sndC (sndC b127)))]
noncomputable def k127_j5:List Item:=[.code (sndC (sndC (inC (inC (sndC (fstC (sndC (sndC b127)))))))), .inLoop (inC (inC (sndC (fstC (sndC (sndC b127)))))), .inBlock 4, .code (sndC (sndC (sndC b127)))]
noncomputable def k127_j6:List Item:=[.inBlock 5, .code (sndC (sndC (inC (inC (sndC (fstC (sndC (sndC b127)))))))), .inLoop (inC (inC (sndC (fstC (sndC (sndC b127)))))), .inBlock 4, .code (sndC (sndC (sndC b127)))]
noncomputable def k127_l6:List Item:=[.code (inC (inC (sndC (inC (fstC (sndC (inC (inC (sndC (fstC (sndC (sndC b127)))))))))))), .inLoop (inC (inC (sndC (inC (fstC (sndC (inC (inC (sndC (fstC (sndC (sndC b127)))))))))))), .inBlock 6, .inBlock 5, .code (sndC (sndC (inC (inC (sndC (fstC (sndC (sndC b127)))))))), .inLoop (inC (inC (sndC (fstC (sndC (sndC b127)))))), .inBlock 4, .code (sndC (sndC (sndC b127)))]
noncomputable def k127_j7:List Item:=[.code (sndC (sndC (inC (inC (sndC (inC (fstC (sndC (inC (inC (sndC (fstC (sndC (sndC b127)))))))))))))), .inLoop (inC (inC (sndC (inC (fstC (sndC (inC (inC (sndC (fstC (sndC (sndC b127)))))))))))), .inBlock 6, .inBlock 5, .code (sndC (sndC (inC (inC (sndC (fstC (sndC (sndC b127)))))))), .inLoop (inC (inC (sndC (fstC (sndC (sndC b127)))))), .inBlock 4, .code (sndC (sndC (sndC b127)))]
noncomputable def k127_j8:List Item:=[.inBlock 7, .code (sndC (sndC (inC (inC (sndC (inC (fstC (sndC (inC (inC (sndC (fstC (sndC (sndC b127)))))))))))))), .inLoop (inC (inC (sndC (inC (fstC (sndC (inC (inC (sndC (fstC (sndC (sndC b127)))))))))))), .inBlock 6, .inBlock 5, .code (sndC (sndC (inC (inC (sndC (fstC (sndC (sndC b127)))))))), .inLoop (inC (inC (sndC (fstC (sndC (sndC b127)))))), .inBlock 4, .code (sndC (sndC (sndC b127)))]
noncomputable def k127_l8:List Item:=[.code (inC (inC (sndC (inC (fstC (sndC (inC (inC (sndC (inC (fstC (sndC (inC (inC (sndC (fstC (sndC (sndC b127)))))))))))))))))), .inLoop (inC (inC (sndC (inC (fstC (sndC (inC (inC (sndC (inC (fstC (sndC (inC (inC (sndC (fstC (sndC (sndC b127)))))))))))))))))), .inBlock 8, .inBlock 7, .code (sndC (sndC (inC (inC (sndC (inC (fstC (sndC (inC (inC (sndC (fstC (sndC (sndC b127)))))))))))))), .inLoop (inC (inC (sndC (inC (fstC (sndC (inC (inC (sndC (fstC (sndC (sndC b127)))))))))))), .inBlock 6, .inBlock 5, .code (sndC (sndC (inC (inC (sndC (fstC (sndC (sndC b127)))))))), .inLoop (inC (inC (sndC (fstC (sndC (sndC b127)))))), .inBlock 4, .code (sndC (sndC (sndC b127)))]
def a127 (m:Module):List (AV Ty):=[.agg [.sl false (91:Nat) m.externs, .sl false (94:Nat) m.globals, .sl false (96:Nat) m.tables, .sl false (33:Nat) m.funcs]]
noncomputable def R127 (m:Module):St Ty→EvR:=resT tb C127 Try.f127.results.toList .keep (a127 m)
def s127_l0 (m:Module) (v3:Int) (h0:List Module):St Ty:=St.mk [(1, .ptr (0) [] (0) (0)),(3, .v (.int .i64 v3))] [some (Root.mk (27) false h0)]
def s127_l2 (m:Module) (v3:Int) (v4:Int) (h0:List Module):St Ty:=St.mk [(1, .ptr (0) [] (0) (0)),(3, .v (.int .i64 v3)),(4, .v (.int .i64 v4))] [some (Root.mk (27) false h0)]
def s127_j0 (m:Module) (h0:List Module):St Ty:=St.mk [(1, .ptr (0) [] (0) (0))] [some (Root.mk (27) false h0)]
def s127_j2 (m:Module) (v3:Int) (h0:List Module):St Ty:=St.mk [(1, .ptr (0) [] (0) (0)),(3, .v (.int .i64 v3))] [some (Root.mk (27) false h0)]
def s127_l4 (m:Module) (v6:Int) (h0:List Module):St Ty:=St.mk [(1, .ptr (0) [] (0) (0)),(6, .v (.int .i64 v6))] [some (Root.mk (27) false h0)]
def s127_j1 (m:Module) (v3:Int) (h0:List Module):St Ty:=St.mk [(1, .ptr (0) [] (0) (0)),(3, .v (.int .i64 v3))] [some (Root.mk (27) false h0)]
def s127_l6 (m:Module) (v6:Int) (v7:Int) (h0:List Module):St Ty:=St.mk [(1, .ptr (0) [] (0) (0)),(6, .v (.int .i64 v6)),(7, .v (.int .i64 v7))] [some (Root.mk (27) false h0)]
def s127_j4 (m:Module):St Ty:=St.mk [] []
def s127_l8 (m:Module) (v6:Int) (v7:Int) (v8:Int) (h0:List Module):St Ty:=St.mk [(1, .ptr (0) [] (0) (0)),(6, .v (.int .i64 v6)),(7, .v (.int .i64 v7)),(8, .v (.int .i64 v8))] [some (Root.mk (27) false h0)]
def s127_j6 (m:Module) (v6:Int) (h0:List Module):St Ty:=St.mk [(1, .ptr (0) [] (0) (0)),(6, .v (.int .i64 v6))] [some (Root.mk (27) false h0)]
def s127_j8 (m:Module) (v6:Int) (v7:Int) (h0:List Module):St Ty:=St.mk [(1, .ptr (0) [] (0) (0)),(6, .v (.int .i64 v6)),(7, .v (.int .i64 v7))] [some (Root.mk (27) false h0)]
def s127_j5 (m:Module) (v6:Int) (h0:List Module):St Ty:=St.mk [(1, .ptr (0) [] (0) (0)),(6, .v (.int .i64 v6))] [some (Root.mk (27) false h0)]
def s127_j7 (m:Module) (v6:Int) (v7:Int) (h0:List Module):St Ty:=St.mk [(1, .ptr (0) [] (0) (0)),(6, .v (.int .i64 v6)),(7, .v (.int .i64 v7))] [some (Root.mk (27) false h0)]
theorem e127 (J m):run tb C127 U127 J (R127 m) 4096 [.code b127] ⟨slotsA (a127 m) 0 0,heapA (a127 m)⟩=
 J k127_l0 (s127_l0 m 0 ([Module.mk m.externs m.globals m.tables m.funcs])):=by kernel_rfl
theorem e127_l0 (J m v3 h0):run tb C127 U127 J (R127 m) 4096 k127_l0 (s127_l0 m v3 h0)=
 if decide (v3<(↑(h0.getD (0) (Module.mk [] [] [] [])).tables.length:Int))=true then
 J k127_l2 (s127_l2 m v3 0 h0)
 else
 J k127_j0 (s127_j0 m h0):=by kernel_rfl
theorem e127_l2 (J m v3 v4 h0):run tb C127 U127 J (R127 m) 4096 k127_l2 (s127_l2 m v3 v4 h0)=
 if 0≤v3 then
 if v3<(↑(h0.getD (0) (Module.mk [] [] [] [])).tables.length:Int) then
 if decide (v4<(↑((h0.getD (0) (Module.mk [] [] [] [])).tables.getD v3.toNat (Table.mk ByteArray.empty [])).funcs.length:Int))=true then
 if 0≤v3 then
 if v3<(↑(h0.getD (0) (Module.mk [] [] [] [])).tables.length:Int) then
 if 0≤v4 then
 if v4<(↑((h0.getD (0) (Module.mk [] [] [] [])).tables.getD v3.toNat (Table.mk ByteArray.empty [])).funcs.length:Int) then
 if decide (((h0.getD (0) (Module.mk [] [] [] [])).tables.getD v3.toNat (Table.mk ByteArray.empty [])).funcs.getD v4.toNat 0<(-1:Int))=false then
 if decide (((h0.getD (0) (Module.mk [] [] [] [])).tables.getD v3.toNat (Table.mk ByteArray.empty [])).funcs.getD v4.toNat 0≥(↑(h0.getD (0) (Module.mk [] [] [] [])).funcs.length:Int))=true then
 some (.v (.bool false),[.dead])
 else
 J k127_l2 (s127_l2 m v3 (IntKind.i64.wrap (v4+1)) h0)
 else
 some (.v (.bool false),[.dead])
 else none
 else none
 else none
 else none
 else
 J k127_j2 (s127_j2 m v3 h0)
 else none
 else none:=by kernel_rfl
theorem e127_j0 (J m h0):run tb C127 U127 J (R127 m) 4096 k127_j0 (s127_j0 m h0)=
 J k127_l4 (s127_l4 m 0 h0):=by kernel_rfl
theorem e127_j2 (J m v3 h0):run tb C127 U127 J (R127 m) 4096 k127_j2 (s127_j2 m v3 h0)=
 J k127_j1 (s127_j1 m v3 h0):=by kernel_rfl
theorem e127_l4 (J m v6 h0):run tb C127 U127 J (R127 m) 4096 k127_l4 (s127_l4 m v6 h0)=
 if decide (v6<(↑(h0.getD (0) (Module.mk [] [] [] [])).funcs.length:Int))=true then
 J k127_l6 (s127_l6 m v6 0 h0)
 else
 J k127_j4 (s127_j4 m):=by kernel_rfl
theorem e127_j1 (J m v3 h0):run tb C127 U127 J (R127 m) 4096 k127_j1 (s127_j1 m v3 h0)=
 J k127_l0 (s127_l0 m (IntKind.i64.wrap (v3+1)) h0):=by kernel_rfl
theorem e127_l6 (J m v6 v7 h0):run tb C127 U127 J (R127 m) 4096 k127_l6 (s127_l6 m v6 v7 h0)=
 if 0≤v6 then
 if v6<(↑(h0.getD (0) (Module.mk [] [] [] [])).funcs.length:Int) then
 if decide (v7<(↑((h0.getD (0) (Module.mk [] [] [] [])).funcs.getD v6.toNat (Func.mk ByteArray.empty false [] 0 [])).blocks.length:Int))=true then
 J k127_l8 (s127_l8 m v6 v7 0 h0)
 else
 J k127_j6 (s127_j6 m v6 h0)
 else none
 else none:=by kernel_rfl
theorem e127_j4 (J m):run tb C127 U127 J (R127 m) 4096 k127_j4 (s127_j4 m)=
 some (.v (.bool true),[.dead]):=by kernel_rfl
theorem e127_l8 (J m v6 v7 v8 h0):run tb C127 U127 J (R127 m) 4096 k127_l8 (s127_l8 m v6 v7 v8 h0)=
 if 0≤v6 then
 if v6<(↑(h0.getD (0) (Module.mk [] [] [] [])).funcs.length:Int) then
 if 0≤v7 then
 if v7<(↑((h0.getD (0) (Module.mk [] [] [] [])).funcs.getD v6.toNat (Func.mk ByteArray.empty false [] 0 [])).blocks.length:Int) then
 if decide (v8<(↑(((h0.getD (0) (Module.mk [] [] [] [])).funcs.getD v6.toNat (Func.mk ByteArray.empty false [] 0 [])).blocks.getD v7.toNat (Block.mk [])).ins.length:Int))=true then
 if 0≤v6 then
 if v6<(↑(h0.getD (0) (Module.mk [] [] [] [])).funcs.length:Int) then
 if 0≤v7 then
 if v7<(↑((h0.getD (0) (Module.mk [] [] [] [])).funcs.getD v6.toNat (Func.mk ByteArray.empty false [] 0 [])).blocks.length:Int) then
 if 0≤v8 then
 if v8<(↑(((h0.getD (0) (Module.mk [] [] [] [])).funcs.getD v6.toNat (Func.mk ByteArray.empty false [] 0 [])).blocks.getD v7.toNat (Block.mk [])).ins.length:Int) then
 if (((((h0.getD (0) (Module.mk [] [] [] [])).funcs.getD v6.toNat (Func.mk ByteArray.empty false [] 0 [])).blocks.getD v7.toNat (Block.mk [])).ins.getD v8.toNat (Ins.mk 0 0 0 0 0 [] [])).op == 2)=true then
 if decide (((((h0.getD (0) (Module.mk [] [] [] [])).funcs.getD v6.toNat (Func.mk ByteArray.empty false [] 0 [])).blocks.getD v7.toNat (Block.mk [])).ins.getD v8.toNat (Ins.mk 0 0 0 0 0 [] [])).sym_<0)=false then
 if decide (((((h0.getD (0) (Module.mk [] [] [] [])).funcs.getD v6.toNat (Func.mk ByteArray.empty false [] 0 [])).blocks.getD v7.toNat (Block.mk [])).ins.getD v8.toNat (Ins.mk 0 0 0 0 0 [] [])).sym_≥(↑(h0.getD (0) (Module.mk [] [] [] [])).funcs.length:Int))=true then
 some (.v (.bool false),[.dead])
 else
 J k127_l8 (s127_l8 m v6 v7 (IntKind.i64.wrap (v8+1)) h0)
 else
 some (.v (.bool false),[.dead])
 else
 if (((((h0.getD (0) (Module.mk [] [] [] [])).funcs.getD v6.toNat (Func.mk ByteArray.empty false [] 0 [])).blocks.getD v7.toNat (Block.mk [])).ins.getD v8.toNat (Ins.mk 0 0 0 0 0 [] [])).op == 22)=true then
 if decide (((((h0.getD (0) (Module.mk [] [] [] [])).funcs.getD v6.toNat (Func.mk ByteArray.empty false [] 0 [])).blocks.getD v7.toNat (Block.mk [])).ins.getD v8.toNat (Ins.mk 0 0 0 0 0 [] [])).sym_<0)=false then
 if decide (((((h0.getD (0) (Module.mk [] [] [] [])).funcs.getD v6.toNat (Func.mk ByteArray.empty false [] 0 [])).blocks.getD v7.toNat (Block.mk [])).ins.getD v8.toNat (Ins.mk 0 0 0 0 0 [] [])).sym_≥(↑(h0.getD (0) (Module.mk [] [] [] [])).funcs.length:Int))=true then
 some (.v (.bool false),[.dead])
 else
 J k127_l8 (s127_l8 m v6 v7 (IntKind.i64.wrap (v8+1)) h0)
 else
 some (.v (.bool false),[.dead])
 else
 if (((((h0.getD (0) (Module.mk [] [] [] [])).funcs.getD v6.toNat (Func.mk ByteArray.empty false [] 0 [])).blocks.getD v7.toNat (Block.mk [])).ins.getD v8.toNat (Ins.mk 0 0 0 0 0 [] [])).op == 3)=true then
 if decide (((((h0.getD (0) (Module.mk [] [] [] [])).funcs.getD v6.toNat (Func.mk ByteArray.empty false [] 0 [])).blocks.getD v7.toNat (Block.mk [])).ins.getD v8.toNat (Ins.mk 0 0 0 0 0 [] [])).sym_<0)=false then
 if decide (((((h0.getD (0) (Module.mk [] [] [] [])).funcs.getD v6.toNat (Func.mk ByteArray.empty false [] 0 [])).blocks.getD v7.toNat (Block.mk [])).ins.getD v8.toNat (Ins.mk 0 0 0 0 0 [] [])).sym_≥(↑(h0.getD (0) (Module.mk [] [] [] [])).globals.length:Int))=true then
 some (.v (.bool false),[.dead])
 else
 J k127_l8 (s127_l8 m v6 v7 (IntKind.i64.wrap (v8+1)) h0)
 else
 some (.v (.bool false),[.dead])
 else
 if (((((h0.getD (0) (Module.mk [] [] [] [])).funcs.getD v6.toNat (Func.mk ByteArray.empty false [] 0 [])).blocks.getD v7.toNat (Block.mk [])).ins.getD v8.toNat (Ins.mk 0 0 0 0 0 [] [])).op == 23)=true then
 if decide (((((h0.getD (0) (Module.mk [] [] [] [])).funcs.getD v6.toNat (Func.mk ByteArray.empty false [] 0 [])).blocks.getD v7.toNat (Block.mk [])).ins.getD v8.toNat (Ins.mk 0 0 0 0 0 [] [])).sym_<0)=false then
 if decide (((((h0.getD (0) (Module.mk [] [] [] [])).funcs.getD v6.toNat (Func.mk ByteArray.empty false [] 0 [])).blocks.getD v7.toNat (Block.mk [])).ins.getD v8.toNat (Ins.mk 0 0 0 0 0 [] [])).sym_≥(↑(h0.getD (0) (Module.mk [] [] [] [])).externs.length:Int))=true then
 some (.v (.bool false),[.dead])
 else
 J k127_l8 (s127_l8 m v6 v7 (IntKind.i64.wrap (v8+1)) h0)
 else
 some (.v (.bool false),[.dead])
 else
 if (((((h0.getD (0) (Module.mk [] [] [] [])).funcs.getD v6.toNat (Func.mk ByteArray.empty false [] 0 [])).blocks.getD v7.toNat (Block.mk [])).ins.getD v8.toNat (Ins.mk 0 0 0 0 0 [] [])).op == 24)=true then
 if decide (((((h0.getD (0) (Module.mk [] [] [] [])).funcs.getD v6.toNat (Func.mk ByteArray.empty false [] 0 [])).blocks.getD v7.toNat (Block.mk [])).ins.getD v8.toNat (Ins.mk 0 0 0 0 0 [] [])).sym_<0)=false then
 if decide (((((h0.getD (0) (Module.mk [] [] [] [])).funcs.getD v6.toNat (Func.mk ByteArray.empty false [] 0 [])).blocks.getD v7.toNat (Block.mk [])).ins.getD v8.toNat (Ins.mk 0 0 0 0 0 [] [])).sym_≥(↑(h0.getD (0) (Module.mk [] [] [] [])).tables.length:Int))=true then
 some (.v (.bool false),[.dead])
 else
 J k127_l8 (s127_l8 m v6 v7 (IntKind.i64.wrap (v8+1)) h0)
 else
 some (.v (.bool false),[.dead])
 else
 if decide (((((h0.getD (0) (Module.mk [] [] [] [])).funcs.getD v6.toNat (Func.mk ByteArray.empty false [] 0 [])).blocks.getD v7.toNat (Block.mk [])).ins.getD v8.toNat (Ins.mk 0 0 0 0 0 [] [])).sym_<0)=false then
 if decide (((((h0.getD (0) (Module.mk [] [] [] [])).funcs.getD v6.toNat (Func.mk ByteArray.empty false [] 0 [])).blocks.getD v7.toNat (Block.mk [])).ins.getD v8.toNat (Ins.mk 0 0 0 0 0 [] [])).sym_≥1)=true then
 some (.v (.bool false),[.dead])
 else
 J k127_l8 (s127_l8 m v6 v7 (IntKind.i64.wrap (v8+1)) h0)
 else
 some (.v (.bool false),[.dead])
 else none
 else none
 else none
 else none
 else none
 else none
 else
 J k127_j8 (s127_j8 m v6 v7 h0)
 else none
 else none
 else none
 else none:=by kernel_rfl
theorem e127_j6 (J m v6 h0):run tb C127 U127 J (R127 m) 4096 k127_j6 (s127_j6 m v6 h0)=
 J k127_j5 (s127_j5 m v6 h0):=by kernel_rfl
theorem e127_j8 (J m v6 v7 h0):run tb C127 U127 J (R127 m) 4096 k127_j8 (s127_j8 m v6 v7 h0)=
 J k127_j7 (s127_j7 m v6 v7 h0):=by kernel_rfl
theorem e127_j5 (J m v6 h0):run tb C127 U127 J (R127 m) 4096 k127_j5 (s127_j5 m v6 h0)=
 J k127_l4 (s127_l4 m (IntKind.i64.wrap (v6+1)) h0):=by kernel_rfl
theorem e127_j7 (J m v6 v7 h0):run tb C127 U127 J (R127 m) 4096 k127_j7 (s127_j7 m v6 v7 h0)=
 J k127_l6 (s127_l6 m v6 (IntKind.i64.wrap (v7+1)) h0):=by kernel_rfl

theorem in127:Entered 127:=⟨Try.f127,b127,by kernel_rfl,by kernel_rfl,by kernel_rfl⟩
theorem fn127 (m:Ev.Module) {res:AV Ty} {outs:List (AV Ty)} (h:Ends C127 U127 (R127 m) [.code b127] ⟨slotsA (a127 m) 0 0,heapA (a127 m)⟩ (some (res,outs))):CallOk tb Try.prog 127 (a127 m) res outs:=by
 obtain ⟨n0,hn⟩:=h
 exact fn_ok (C:=C127) (U:=U127) (n:=0+n0) (q:= .keep) tbOk good (fun f mu S h=>by cases h) mixed (fn:=Try.f127) (body:=b127) (by kernel_rfl) (by kernel_rfl) rfl rfl (by show 1≤125;omega) (hn 0)
section
variable {m:Ev.Module}
theorem Syms.tf (h:okM m) {i j:Nat} (hi:i<m.tables.length) (hj:j<(m.tables.getD i (Table.mk ByteArray.empty [])).funcs.length):Way C127 U127 (R127 m) (rD false) k127_l2 (s127_l2 m i j [m]) k127_l2 (s127_l2 m i (j+1:Nat) [m]) True:=by
 have hl:=h.t hi
 refine Way.of (fun J=>e127_l2 J m i j [m]) ?_
 have w:IntKind.i64.wrap ((j:Int)+1)=((j+1:Nat):Int):=wrap_nat (by omega) (by omega)
 simp only [List.getD_cons_zero,Int.toNat_natCast,w]
 repeat' first|refine tree_qt (fun _=> ?_) (fun _=> ?_)|refine tree_qf (fun _=> ?_) (fun _=> ?_)|refine tree_nt (fun _=> ?_) (fun _=> ?_)|refine tree_nf (fun _=> ?_) (fun _=> ?_)|refine tree_et (fun _=> ?_) (fun _=> ?_)|refine tree_ef (fun _=> ?_) (fun _=> ?_)|refine tree_dt (fun _=> ?_) (fun _=> ?_)|refine tree_df (fun _=> ?_) (fun _=> ?_)|refine tree_bt (fun _=> ?_) (fun _=> ?_)|refine tree_bf (fun _=> ?_) (fun _=> ?_)|refine tree_ite (fun _=> ?_) (fun _=> ?_)
 all_goals first|exact WayT.no (fun J=>rfl)|exact WayT.yes (fun J=>rfl) (trivial)|(exfalso;omega)
theorem Syms.t (h:okM m) {i:Nat} (hi:i<m.tables.length):Way C127 U127 (R127 m) (rD false) k127_l0 (s127_l0 m i [m]) k127_l0 (s127_l0 m (i+1:Nat) [m]) True:=by
 have hl:=h.1.2.2.1
 refine Goes.way (k':=k127_l2) (s':=s127_l2 m i (0:Nat) [m]) (.step fun J=> ?_) ?_
 ·rw [e127_l0]
  simp only [List.getD_cons_zero,Int.toNat_natCast]
  simp (disch:=first|omega|assumption|(rw [dT];omega)|(rw [dF];omega)) only [↓iP,↓iN,iT,iF,wrap_up,tN,Nat.zero_add]
  rfl
 refine ((Way.upto (fun k=>s127_l2 m i k [m]) _ (fun _=>True) (fun k hk _=>Syms.tf h hi hk) _ (Nat.le_refl _)).then fun _=> ?_).mono fun _=>trivial
 refine Goes.trans (k':=k127_j2) (s':=s127_j2 m i [m]) (.step fun J=> ?_) (.trans (.step fun J=>e127_j2 ..) (.step fun J=> ?_))
 ·rw [e127_l2]
  simp only [List.getD_cons_zero,Int.toNat_natCast]
  simp (disch:=first|omega|assumption|(rw [dT];omega)|(rw [dF];omega)) only [↓iP,↓iN,iT,iF,wrap_up,tN,Nat.zero_add]
 ·rw [e127_j1,wrap_nat (n:=i+1) (by omega) (by omega)]
theorem Syms.fi (h:okM m) {i b k:Nat} (hi:i<m.funcs.length) (hb:b<(m.funcs.getD i (Func.mk ByteArray.empty false [] 0 [])).blocks.length) (hk:k<((m.funcs.getD i (Func.mk ByteArray.empty false [] 0 [])).blocks.getD b (Block.mk [])).ins.length):Way C127 U127 (R127 m) (rD false) k127_l8 (s127_l8 m i b k [m]) k127_l8 (s127_l8 m i b (k+1:Nat) [m]) (SymQ m (((m.funcs.getD i (Func.mk ByteArray.empty false [] 0 [])).blocks.getD b (Block.mk [])).ins.getD k (Ins.mk 0 0 0 0 0 [] []))):=by
 have h1:=(h.f hi).b hb
 refine Way.of (fun J=>e127_l8 J m i b k [m]) ?_
 have w:IntKind.i64.wrap ((k:Int)+1)=((k+1:Nat):Int):=wrap_nat (by omega) (by omega)
 simp only [List.getD_cons_zero,Int.toNat_natCast,w]
 repeat' first|refine tree_qt (fun _=> ?_) (fun _=> ?_)|refine tree_qf (fun _=> ?_) (fun _=> ?_)|refine tree_nt (fun _=> ?_) (fun _=> ?_)|refine tree_nf (fun _=> ?_) (fun _=> ?_)|refine tree_et (fun _=> ?_) (fun _=> ?_)|refine tree_ef (fun _=> ?_) (fun _=> ?_)|refine tree_dt (fun _=> ?_) (fun _=> ?_)|refine tree_df (fun _=> ?_) (fun _=> ?_)|refine tree_bt (fun _=> ?_) (fun _=> ?_)|refine tree_bf (fun _=> ?_) (fun _=> ?_)|refine tree_ite (fun _=> ?_) (fun _=> ?_)
 all_goals first|exact WayT.no (fun J=>rfl)|exact WayT.yes (fun J=>rfl) (by refine ⟨?_,fun _=> ?_,fun _=> ?_,fun _=> ?_,fun _=> ?_,fun _=> ?_⟩<;>omega)|(exfalso;omega)
theorem Syms.fb (h:okM m) {i b:Nat} (hi:i<m.funcs.length) (hb:b<(m.funcs.getD i (Func.mk ByteArray.empty false [] 0 [])).blocks.length):Way C127 U127 (R127 m) (rD false) k127_l6 (s127_l6 m i b [m]) k127_l6 (s127_l6 m i (b+1:Nat) [m]) (∀k,k<((m.funcs.getD i (Func.mk ByteArray.empty false [] 0 [])).blocks.getD b (Block.mk [])).ins.length→SymQ m (((m.funcs.getD i (Func.mk ByteArray.empty false [] 0 [])).blocks.getD b (Block.mk [])).ins.getD k (Ins.mk 0 0 0 0 0 [] []))):=by
 have h0:=(h.f hi).2.1
 refine Goes.way (k':=k127_l8) (s':=s127_l8 m i b (0:Nat) [m]) (.step fun J=> ?_) ?_
 ·rw [e127_l6]
  simp only [List.getD_cons_zero,Int.toNat_natCast]
  simp (disch:=first|omega|assumption|(rw [dT];omega)|(rw [dF];omega)) only [↓iP,↓iN,iT,iF,wrap_up,tN,Nat.zero_add]
  rfl
 refine (Way.upto (fun k=>s127_l8 m i b k [m]) _ _ (fun k hk _=>Syms.fi h hi hb hk) _ (Nat.le_refl _)).then fun _=> ?_
 refine Goes.trans (k':=k127_j8) (s':=s127_j8 m i b [m]) (.step fun J=> ?_) (.trans (.step fun J=>e127_j8 ..) (.step fun J=> ?_))
 ·rw [e127_l8]
  simp only [List.getD_cons_zero,Int.toNat_natCast]
  simp (disch:=first|omega|assumption|(rw [dT];omega)|(rw [dF];omega)) only [↓iP,↓iN,iT,iF,wrap_up,tN,Nat.zero_add]
 ·rw [e127_j7,wrap_nat (n:=b+1) (by omega) (by omega)]
theorem Syms.f (h:okM m) {i:Nat} (hi:i<m.funcs.length):Way C127 U127 (R127 m) (rD false) k127_l4 (s127_l4 m i [m]) k127_l4 (s127_l4 m (i+1:Nat) [m]) (FnS m (m.funcs.getD i (Func.mk ByteArray.empty false [] 0 []))):=by
 have hl:=h.1.2.2.2
 refine Goes.way (k':=k127_l6) (s':=s127_l6 m i (0:Nat) [m]) (.step fun J=> ?_) ?_
 ·rw [e127_l4]
  simp only [List.getD_cons_zero,Int.toNat_natCast]
  simp (disch:=first|omega|assumption|(rw [dT];omega)|(rw [dF];omega)) only [↓iP,↓iN,iT,iF,wrap_up,tN,Nat.zero_add]
  rfl
 refine (Way.upto (fun b=>s127_l6 m i b [m]) _ _ (fun b hb _=>Syms.fb h hi hb) _ (Nat.le_refl _)).then fun _=> ?_
 refine Goes.trans (k':=k127_j6) (s':=s127_j6 m i [m]) (.step fun J=> ?_) (.trans (.step fun J=>e127_j6 ..) (.step fun J=> ?_))
 ·rw [e127_l6]
  simp only [List.getD_cons_zero,Int.toNat_natCast]
  simp (disch:=first|omega|assumption|(rw [dT];omega)|(rw [dF];omega)) only [↓iP,↓iN,iT,iF,wrap_up,tN,Nat.zero_add]
 ·rw [e127_j5,wrap_nat (n:=i+1) (by omega) (by omega)]
end
def SymsQ (m:Ev.Module):Prop:= ∀i,i<m.funcs.length→FnS m (m.funcs.getD i (Func.mk ByteArray.empty false [] 0 []))
theorem syms_ok (m:Ev.Module) (h:okM m): ∃b,Tells 127 (a127 m) [.dead] (SymsQ m) b:=by
 have:Says C127 U127 (R127 m) rD [.code b127] ⟨slotsA (a127 m) 0 0,heapA (a127 m)⟩ (SymsQ m):=by
  refine Goes.says (k':=k127_l0) (s':=s127_l0 m (0:Nat) [m]) (.step fun J=>e127 ..) ?_
  refine (Way.says (Q':=SymsQ m) ((Way.upto (fun i=>s127_l0 m i [m]) _ (fun _=>True) (fun i hi _=>Syms.t h hi) _ (Nat.le_refl _)).mono fun _=>trivial) fun _=> ?_).mono fun q=>q.2
  refine Goes.says (k':=k127_l4) (s':=s127_l4 m (0:Nat) [m]) (.trans (k':=k127_j0) (s':=s127_j0 m [m]) (.step fun J=> ?_) (.step fun J=>e127_j0 ..)) ?_
  ·rw [e127_l0]
   simp only [List.getD_cons_zero,Int.toNat_natCast]
   simp (disch:=first|omega|assumption|(rw [dT];omega)|(rw [dF];omega)) only [↓iP,↓iN,iT,iF,wrap_up,tN,Nat.zero_add]
  refine (Way.says (Q':=True) (Way.upto (fun i=>s127_l4 m i [m]) _ _ (fun i hi _=>Syms.f h hi) _ (Nat.le_refl _)) fun _=> ?_).mono fun q=>q.1
  refine Goes.says (k':=k127_j4) (s':=s127_j4 m) (.step fun J=> ?_) (.yes (.step fun J=>e127_j4 ..) trivial)
  rw [e127_l4]
  simp only [List.getD_cons_zero,Int.toNat_natCast]
  simp (disch:=first|omega|assumption|(rw [dT];omega)|(rw [dF];omega)) only [↓iP,↓iN,iT,iF,wrap_up,tN,Nat.zero_add]
 obtain ⟨b,h1,h2⟩:=this
 exact ⟨b,fn127 m h1,h2⟩
noncomputable def b126:Code:=bodyOf Try.f126
noncomputable def C126:Cfg Ty:=⟨fun
 |149=>some ([],S149)
 |_=>none,fun _=>false,80,0⟩
def U126:Cuts:=⟨fun
 |0=>some [(1,none),(3,none),(4,none)]
 |2=>some [(1,none),(3,none),(4,none)]
 |4=>some [(1,none),(3,none),(4,none)]
 |6=>some [(4,none)]
 |_=>none,fun
 |0=>some [(1,none),(3,none),(4,none),(5,none)]
 |2=>some [(1,none),(3,none),(4,none),(6,none)]
 |4=>some [(1,none),(3,none),(4,none),(7,none)]
 |6=>some [(1,none),(3,none),(4,none),(8,none)]
 |_=>none,fun _=>none⟩
noncomputable def k126_j0:List Item:=[.code (sndC (sndC (sndC (sndC b126))))]
noncomputable def k126_l0:List Item:=[.code (inC (inC (sndC (fstC (sndC (sndC (sndC b126))))))), .inLoop (inC (inC (sndC (fstC (sndC (sndC (sndC b126))))))), .inBlock 0, .code (sndC (sndC (sndC (sndC b126))))]
noncomputable def k126_j2:List Item:=[.code (sndC (sndC (sndC (sndC (sndC b126)))))]
noncomputable def k126_l2:List Item:=[.code (inC (inC (sndC (fstC (sndC (sndC (sndC (sndC b126)))))))), .inLoop (inC (inC (sndC (fstC (sndC (sndC (sndC (sndC b126)))))))), .inBlock 2, .code (sndC (sndC (sndC (sndC (sndC b126)))))]
noncomputable def k126_j4:List Item:=[.code (sndC (sndC (sndC (sndC (sndC (sndC b126))))))]
noncomputable def k126_l4:List Item:=[.code (inC (inC (sndC (fstC (sndC (sndC (sndC (sndC (sndC b126))))))))), .inLoop (inC (inC (sndC (fstC (sndC (sndC (sndC (sndC (sndC b126))))))))), .inBlock 4, .code (sndC (sndC (sndC (sndC (sndC (sndC b126))))))]
noncomputable def k126_j6:List Item:=[.code (sndC (sndC (sndC (sndC (sndC (sndC (sndC b126)))))))]
noncomputable def k126_l6:List Item:=[.code (inC (inC (sndC (fstC (sndC (sndC (sndC (sndC (sndC (sndC b126)))))))))), .inLoop (inC (inC (sndC (fstC (sndC (sndC (sndC (sndC (sndC (sndC b126)))))))))), .inBlock 6, .code (sndC (sndC (sndC (sndC (sndC (sndC (sndC b126)))))))]
def a126 (m:Module):List (AV Ty):=[.agg [.sl false (91:Nat) m.externs, .sl false (94:Nat) m.globals, .sl false (96:Nat) m.tables, .sl false (33:Nat) m.funcs]]
noncomputable def R126 (m:Module):St Ty→EvR:=resT tb C126 Try.f126.results.toList .keep (a126 m)
def s126_l0 (m:Module) (v3:List (Value×Int)) (v4:Int) (v5:Int) (h0:List Module):St Ty:=St.mk [(1, .ptr (0) [] (0) (0)),(3,AV.mp none IntKind.i64 v3),(4, .v (.int .i64 v4)),(5, .v (.int .i64 v5))] [some (Root.mk (27) false h0)]
def s126_j0 (m:Module) (v3:List (Value×Int)) (v4:Int) (h0:List Module):St Ty:=St.mk [(1, .ptr (0) [] (0) (0)),(3,AV.mp none IntKind.i64 v3),(4, .v (.int .i64 v4))] [some (Root.mk (27) false h0)]
def s126_l2 (m:Module) (v3:List (Value×Int)) (v4:Int) (v6:Int) (h0:List Module):St Ty:=St.mk [(1, .ptr (0) [] (0) (0)),(3,AV.mp none IntKind.i64 v3),(4, .v (.int .i64 v4)),(6, .v (.int .i64 v6))] [some (Root.mk (27) false h0)]
def s126_j2 (m:Module) (v3:List (Value×Int)) (v4:Int) (h0:List Module):St Ty:=St.mk [(1, .ptr (0) [] (0) (0)),(3,AV.mp none IntKind.i64 v3),(4, .v (.int .i64 v4))] [some (Root.mk (27) false h0)]
def s126_l4 (m:Module) (v3:List (Value×Int)) (v4:Int) (v7:Int) (h0:List Module):St Ty:=St.mk [(1, .ptr (0) [] (0) (0)),(3,AV.mp none IntKind.i64 v3),(4, .v (.int .i64 v4)),(7, .v (.int .i64 v7))] [some (Root.mk (27) false h0)]
def s126_j4 (m:Module) (v3:List (Value×Int)) (v4:Int) (h0:List Module):St Ty:=St.mk [(1, .ptr (0) [] (0) (0)),(3,AV.mp none IntKind.i64 v3),(4, .v (.int .i64 v4))] [some (Root.mk (27) false h0)]
def s126_l6 (m:Module) (v3:List (Value×Int)) (v4:Int) (v8:Int) (h0:List Module):St Ty:=St.mk [(1, .ptr (0) [] (0) (0)),(3,AV.mp none IntKind.i64 v3),(4, .v (.int .i64 v4)),(8, .v (.int .i64 v8))] [some (Root.mk (27) false h0)]
def s126_j6 (m:Module) (v4:Int):St Ty:=St.mk [(4, .v (.int .i64 v4))] []
theorem e126 (J m):run tb C126 U126 J (R126 m) 4096 [.code b126] ⟨slotsA (a126 m) 0 0,heapA (a126 m)⟩=
 J k126_l0 (s126_l0 m ([]) 0 0 ([Module.mk m.externs m.globals m.tables m.funcs])):=by kernel_rfl
theorem e126_l0 (J m v3 v4 v5 h0):run tb C126 U126 J (R126 m) 4096 k126_l0 (s126_l0 m v3 v4 v5 h0)=
 if decide (v5<(↑(h0.getD (0) (Module.mk [] [] [] [])).externs.length:Int))=true then
 if 0≤v5 then
 if v5<(↑(h0.getD (0) (Module.mk [] [] [] [])).externs.length:Int) then
 J k126_l0 (s126_l0 m (oneM v3 ((h0.getD (0) (Module.mk [] [] [] [])).externs.getD v5.toNat (Extern.mk ByteArray.empty [] 0)).name) (IntKind.i64.wrap (v4+oneI v3 ((h0.getD (0) (Module.mk [] [] [] [])).externs.getD v5.toNat (Extern.mk ByteArray.empty [] 0)).name)) (IntKind.i64.wrap (v5+1)) h0)
 else none
 else none
 else
 J k126_j0 (s126_j0 m v3 v4 h0):=by kernel_rfl
theorem e126_j0 (J m v3 v4 h0):run tb C126 U126 J (R126 m) 4096 k126_j0 (s126_j0 m v3 v4 h0)=
 J k126_l2 (s126_l2 m v3 v4 0 h0):=by kernel_rfl
theorem e126_l2 (J m v3 v4 v6 h0):run tb C126 U126 J (R126 m) 4096 k126_l2 (s126_l2 m v3 v4 v6 h0)=
 if decide (v6<(↑(h0.getD (0) (Module.mk [] [] [] [])).globals.length:Int))=true then
 if 0≤v6 then
 if v6<(↑(h0.getD (0) (Module.mk [] [] [] [])).globals.length:Int) then
 J k126_l2 (s126_l2 m (oneM v3 ((h0.getD (0) (Module.mk [] [] [] [])).globals.getD v6.toNat (Global.mk ByteArray.empty [])).name) (IntKind.i64.wrap (v4+oneI v3 ((h0.getD (0) (Module.mk [] [] [] [])).globals.getD v6.toNat (Global.mk ByteArray.empty [])).name)) (IntKind.i64.wrap (v6+1)) h0)
 else none
 else none
 else
 J k126_j2 (s126_j2 m v3 v4 h0):=by kernel_rfl
theorem e126_j2 (J m v3 v4 h0):run tb C126 U126 J (R126 m) 4096 k126_j2 (s126_j2 m v3 v4 h0)=
 J k126_l4 (s126_l4 m v3 v4 0 h0):=by kernel_rfl
theorem e126_l4 (J m v3 v4 v7 h0):run tb C126 U126 J (R126 m) 4096 k126_l4 (s126_l4 m v3 v4 v7 h0)=
 if decide (v7<(↑(h0.getD (0) (Module.mk [] [] [] [])).tables.length:Int))=true then
 if 0≤v7 then
 if v7<(↑(h0.getD (0) (Module.mk [] [] [] [])).tables.length:Int) then
 J k126_l4 (s126_l4 m (oneM v3 ((h0.getD (0) (Module.mk [] [] [] [])).tables.getD v7.toNat (Table.mk ByteArray.empty [])).name) (IntKind.i64.wrap (v4+oneI v3 ((h0.getD (0) (Module.mk [] [] [] [])).tables.getD v7.toNat (Table.mk ByteArray.empty [])).name)) (IntKind.i64.wrap (v7+1)) h0)
 else none
 else none
 else
 J k126_j4 (s126_j4 m v3 v4 h0):=by kernel_rfl
theorem e126_j4 (J m v3 v4 h0):run tb C126 U126 J (R126 m) 4096 k126_j4 (s126_j4 m v3 v4 h0)=
 J k126_l6 (s126_l6 m v3 v4 0 h0):=by kernel_rfl
theorem e126_l6 (J m v3 v4 v8 h0):run tb C126 U126 J (R126 m) 4096 k126_l6 (s126_l6 m v3 v4 v8 h0)=
 if decide (v8<(↑(h0.getD (0) (Module.mk [] [] [] [])).funcs.length:Int))=true then
 if 0≤v8 then
 if v8<(↑(h0.getD (0) (Module.mk [] [] [] [])).funcs.length:Int) then
 J k126_l6 (s126_l6 m (oneM v3 ((h0.getD (0) (Module.mk [] [] [] [])).funcs.getD v8.toNat (Func.mk ByteArray.empty false [] 0 [])).name) (IntKind.i64.wrap (v4+oneI v3 ((h0.getD (0) (Module.mk [] [] [] [])).funcs.getD v8.toNat (Func.mk ByteArray.empty false [] 0 [])).name)) (IntKind.i64.wrap (v8+1)) h0)
 else none
 else none
 else
 J k126_j6 (s126_j6 m v4):=by kernel_rfl
theorem e126_j6 (J m v4):run tb C126 U126 J (R126 m) 4096 k126_j6 (s126_j6 m v4)=
 some (.v (.bool (v4 == 0)),[.dead]):=by kernel_rfl

theorem in126:Entered 126:=⟨Try.f126,b126,by kernel_rfl,by kernel_rfl,by kernel_rfl⟩
theorem fn126 (m:Ev.Module) {res:AV Ty} {outs:List (AV Ty)} (h:Ends C126 U126 (R126 m) [.code b126] ⟨slotsA (a126 m) 0 0,heapA (a126 m)⟩ (some (res,outs))):CallOk tb Try.prog 126 (a126 m) res outs:=by
 obtain ⟨n0,hn⟩:=h
 exact fn_ok (C:=C126) (U:=U126) (n:=0+n0) (q:= .keep) tbOk good (fun f mu S h=>by
  unfold C126 at h
  simp only at h
  split at h
  ·cases h;exact ⟨in149,S149_ok⟩
  ·cases h) mixed (fn:=Try.f126) (body:=b126) (by kernel_rfl) (by kernel_rfl) rfl rfl (by show 1≤80;omega) (hn 0)
section
variable {m:Ev.Module}
theorem Names.l0 (h:m.externs.length≤1000) (G:List (Value×Int)×Int): ∃G':List (Value×Int)×Int,Goes C126 U126 (R126 m) k126_l0 (s126_l0 m G.1 G.2 (0:Nat) [m]) k126_l0 (s126_l0 m G'.1 G'.2 m.externs.length [m]):=by
 have key:=Goes.shape (C:=C126) (U:=U126) (Rt:=R126 m) (k:=k126_l0) (fun (i:Nat) (G:List (Value×Int)×Int)=>s126_l0 m G.1 G.2 i [m]) m.externs.length (fun _=>True) (fun i G hi _=>⟨(oneM G.1 (m.externs.getD i (Extern.mk ByteArray.empty [] 0)).name,IntKind.i64.wrap (G.2+oneI G.1 (m.externs.getD i (Extern.mk ByteArray.empty [] 0)).name)),trivial, .step fun J=>by
  have w:IntKind.i64.wrap ((i:Int)+1)=((i+1:Nat):Int):=wrap_nat (by omega) (by omega)
  rw [e126_l0]
  simp only [List.getD_cons_zero,Int.toNat_natCast,w]
  simp (disch:=first|omega|assumption|(rw [dT];omega)|(rw [dF];omega)) only [↓iP,↓iN,iT,iF,wrap_up,tN,Nat.zero_add]⟩) m.externs.length 0 G (by omega) trivial
 obtain ⟨G',_,h⟩:=key
 exact ⟨G',h⟩
theorem Names.l2 (h:m.globals.length≤1000) (G:List (Value×Int)×Int): ∃G':List (Value×Int)×Int,Goes C126 U126 (R126 m) k126_l2 (s126_l2 m G.1 G.2 (0:Nat) [m]) k126_l2 (s126_l2 m G'.1 G'.2 m.globals.length [m]):=by
 have key:=Goes.shape (C:=C126) (U:=U126) (Rt:=R126 m) (k:=k126_l2) (fun (i:Nat) (G:List (Value×Int)×Int)=>s126_l2 m G.1 G.2 i [m]) m.globals.length (fun _=>True) (fun i G hi _=>⟨(oneM G.1 (m.globals.getD i (Global.mk ByteArray.empty [])).name,IntKind.i64.wrap (G.2+oneI G.1 (m.globals.getD i (Global.mk ByteArray.empty [])).name)),trivial, .step fun J=>by
  have w:IntKind.i64.wrap ((i:Int)+1)=((i+1:Nat):Int):=wrap_nat (by omega) (by omega)
  rw [e126_l2]
  simp only [List.getD_cons_zero,Int.toNat_natCast,w]
  simp (disch:=first|omega|assumption|(rw [dT];omega)|(rw [dF];omega)) only [↓iP,↓iN,iT,iF,wrap_up,tN,Nat.zero_add]⟩) m.globals.length 0 G (by omega) trivial
 obtain ⟨G',_,h⟩:=key
 exact ⟨G',h⟩
theorem Names.l4 (h:m.tables.length≤1000) (G:List (Value×Int)×Int): ∃G':List (Value×Int)×Int,Goes C126 U126 (R126 m) k126_l4 (s126_l4 m G.1 G.2 (0:Nat) [m]) k126_l4 (s126_l4 m G'.1 G'.2 m.tables.length [m]):=by
 have key:=Goes.shape (C:=C126) (U:=U126) (Rt:=R126 m) (k:=k126_l4) (fun (i:Nat) (G:List (Value×Int)×Int)=>s126_l4 m G.1 G.2 i [m]) m.tables.length (fun _=>True) (fun i G hi _=>⟨(oneM G.1 (m.tables.getD i (Table.mk ByteArray.empty [])).name,IntKind.i64.wrap (G.2+oneI G.1 (m.tables.getD i (Table.mk ByteArray.empty [])).name)),trivial, .step fun J=>by
  have w:IntKind.i64.wrap ((i:Int)+1)=((i+1:Nat):Int):=wrap_nat (by omega) (by omega)
  rw [e126_l4]
  simp only [List.getD_cons_zero,Int.toNat_natCast,w]
  simp (disch:=first|omega|assumption|(rw [dT];omega)|(rw [dF];omega)) only [↓iP,↓iN,iT,iF,wrap_up,tN,Nat.zero_add]⟩) m.tables.length 0 G (by omega) trivial
 obtain ⟨G',_,h⟩:=key
 exact ⟨G',h⟩
theorem Names.l6 (h:m.funcs.length≤1000) (G:List (Value×Int)×Int): ∃G':List (Value×Int)×Int,Goes C126 U126 (R126 m) k126_l6 (s126_l6 m G.1 G.2 (0:Nat) [m]) k126_l6 (s126_l6 m G'.1 G'.2 m.funcs.length [m]):=by
 have key:=Goes.shape (C:=C126) (U:=U126) (Rt:=R126 m) (k:=k126_l6) (fun (i:Nat) (G:List (Value×Int)×Int)=>s126_l6 m G.1 G.2 i [m]) m.funcs.length (fun _=>True) (fun i G hi _=>⟨(oneM G.1 (m.funcs.getD i (Func.mk ByteArray.empty false [] 0 [])).name,IntKind.i64.wrap (G.2+oneI G.1 (m.funcs.getD i (Func.mk ByteArray.empty false [] 0 [])).name)),trivial, .step fun J=>by
  have w:IntKind.i64.wrap ((i:Int)+1)=((i+1:Nat):Int):=wrap_nat (by omega) (by omega)
  rw [e126_l6]
  simp only [List.getD_cons_zero,Int.toNat_natCast,w]
  simp (disch:=first|omega|assumption|(rw [dT];omega)|(rw [dF];omega)) only [↓iP,↓iN,iT,iF,wrap_up,tN,Nat.zero_add]⟩) m.funcs.length 0 G (by omega) trivial
 obtain ⟨G',_,h⟩:=key
 exact ⟨G',h⟩
end
theorem names_ok (m:Ev.Module) (h:okM m): ∃b,Tells 126 (a126 m) [.dead] True b:=by
 obtain ⟨⟨h1,h2,h3,h4⟩,_⟩:=h
 obtain ⟨G1,g1⟩:=Names.l0 h1 ([],0)
 obtain ⟨G2,g2⟩:=Names.l2 h2 G1
 obtain ⟨G3,g3⟩:=Names.l4 h3 G2
 obtain ⟨G4,g4⟩:=Names.l6 h4 G3
 refine ⟨G4.2 == 0,fn126 m (Goes.ends (k':=k126_l0) (s':=s126_l0 m [] 0 (0:Nat) [m]) (.step fun J=>e126 ..) (g1.ends ?_)),fun _=>trivial⟩
 refine Goes.ends (k':=k126_l2) (s':=s126_l2 m G1.1 G1.2 (0:Nat) [m]) (.trans (k':=k126_j0) (s':=s126_j0 m G1.1 G1.2 [m]) (.step fun J=> ?_) (.step fun J=>e126_j0 ..)) (g2.ends ?_)
 ·rw [e126_l0]
  simp only [List.getD_cons_zero,Int.toNat_natCast]
  simp (disch:=first|omega|assumption|(rw [dT];omega)|(rw [dF];omega)) only [↓iP,↓iN,iT,iF,wrap_up,tN,Nat.zero_add]
 refine Goes.ends (k':=k126_l4) (s':=s126_l4 m G2.1 G2.2 (0:Nat) [m]) (.trans (k':=k126_j2) (s':=s126_j2 m G2.1 G2.2 [m]) (.step fun J=> ?_) (.step fun J=>e126_j2 ..)) (g3.ends ?_)
 ·rw [e126_l2]
  simp only [List.getD_cons_zero,Int.toNat_natCast]
  simp (disch:=first|omega|assumption|(rw [dT];omega)|(rw [dF];omega)) only [↓iP,↓iN,iT,iF,wrap_up,tN,Nat.zero_add]
 refine Goes.ends (k':=k126_l6) (s':=s126_l6 m G3.1 G3.2 (0:Nat) [m]) (.trans (k':=k126_j4) (s':=s126_j4 m G3.1 G3.2 [m]) (.step fun J=> ?_) (.step fun J=>e126_j4 ..)) (g4.ends ?_)
 ·rw [e126_l4]
  simp only [List.getD_cons_zero,Int.toNat_natCast]
  simp (disch:=first|omega|assumption|(rw [dT];omega)|(rw [dF];omega)) only [↓iP,↓iN,iT,iF,wrap_up,tN,Nat.zero_add]
 refine Goes.ends (k':=k126_j6) (s':=s126_j6 m G4.2) (.step fun J=> ?_) (.step fun J=>e126_j6 ..)
 rw [e126_l6]
 simp only [List.getD_cons_zero,Int.toNat_natCast]
 simp (disch:=first|omega|assumption|(rw [dT];omega)|(rw [dF];omega)) only [↓iP,↓iN,iT,iF,wrap_up,tN,Nat.zero_add]
end Go.Proofs.Ytggibjbcbicpjaa.Ev
namespace Go.Proofs.Ytggibjbcbicpjaa.Ev
open Go
set_option linter.unusedVariables false
set_option linter.unusedSimpArgs false
noncomputable def b151:Code:=bodyOf Try.f151
noncomputable def C151:Cfg Ty:=⟨fun
 |169=>some ([],S169)
 |_=>none,fun _=>false,5,0⟩
def U151:Cuts:=⟨fun _=>none,fun _=>none,fun _=>none⟩
def a151 (f:Func):List (AV Ty):=[.agg [.v (.string f.name), .v (.bool f.out), .sl false (3:Nat) f.params, .v (.int .i64 f.result), .sl false (44:Nat) f.blocks]]
noncomputable def R151 (f:Func):St Ty→EvR:=resT tb C151 Try.f151.results.toList (.fro 4) (a151 f)
theorem e151 (J f):run tb C151 U151 J (R151 f) 4096 [.code b151] ⟨slotsA (a151 f) 0 0,heapA (a151 f)⟩=
 if okF (Func.mk f.name f.out f.params f.result f.blocks) then
 some (.sl false 4 (fromL (Func.mk f.name f.out f.params f.result f.blocks) 0 (-1:Int)),[.dead])
 else none:=by kernel_rfl

theorem in151:Entered 151:=⟨Try.f151,b151,by kernel_rfl,by kernel_rfl,by kernel_rfl⟩
theorem fn151 (f:Ev.Func) {res:AV Ty} {outs:List (AV Ty)} (h:Ends C151 U151 (R151 f) [.code b151] ⟨slotsA (a151 f) 0 0,heapA (a151 f)⟩ (some (res,outs))):CallOk tb Try.prog 151 (a151 f) res outs:=by
 obtain ⟨n0,hn⟩:=h
 exact fn_ok (C:=C151) (U:=U151) (n:=0+n0) (q:=(.fro 4)) tbOk good (fun f mu S h=>by
  unfold C151 at h
  simp only at h
  split at h
  ·cases h;exact ⟨in169,S169_ok⟩
  ·cases h) mixed (fn:=Try.f151) (body:=b151) (by kernel_rfl) (by kernel_rfl) rfl rfl (by show 1≤5;omega) (hn 0)
noncomputable def reachL (f:Ev.Func):List Bool:=fromL f 0 (-1)
theorem reach_ok (f:Ev.Func) (h:okF f):CallOk tb Try.prog 151 (a151 f) (.sl false 4 (reachL f)) [.dead]:=by
 refine fn151 f (.step fun J=> ?_)
 rw [e151]
 exact if_pos h
noncomputable def S151:List (AV Ty)→T (AV Ty×List (AV Ty))
 |[.agg x]=>match cod33.dec false x with
  |some f=> .ite (okF f) (okF.dec f) (.ret (.sl false 4 (reachL f),[.dead])) .fail
  |none=> .fail
 |_=> .fail
theorem S151_ok (l:List (AV Ty)) (r:AV Ty) (outs:List (AV Ty)) (h:(S151 l).val=some (r,outs)):CallOk tb Try.prog 151 l r outs:=by
 unfold S151 at h
 split at h
 ·rename_i x
  split at h
  ·rename_i f e1
   rcases ite_val h with ⟨e,h⟩|⟨_,h⟩
   ·cases h
    have h1:=cod33_ok.dec false x f e1
    subst h1
    exact reach_ok f e
   ·cases h
  ·cases h
 ·cases h
abbrev rD4 (b:Bool):EvR:=some (.v (.bool b),[.dead, .dead, .dead, .dead])
def fitPre (m:Ev.Module) (i:Ev.Ins) (l:List Int):Prop:=FormQ i∧SymQ m i∧l.length=i.args.length∧l.length≤1000
noncomputable def b155:Code:=bodyOf Try.f155
noncomputable def C155:Cfg Ty:=⟨fun
 |29=>some ([],S29)
 |_=>none,fun _=>false,268,0⟩
def U155:Cuts:=⟨fun
 |0=>some []
 |1=>some []
 |_=>none,fun
 |1=>some [(3,none),(6,none),(9,none)]
 |_=>none,fun _=>none⟩
noncomputable def k155_j0:List Item:=[.code (sndC (sndC b155))]
noncomputable def k155_j1:List Item:=[.code (sndC (thenC (sndC (elseC (sndC (elseC (sndC (elseC (sndC (elseC (sndC (elseC (sndC (elseC (sndC (elseC (sndC (elseC (sndC (elseC (sndC (elseC (sndC (elseC (sndC (elseC (sndC (elseC (sndC (elseC (sndC (inC (sndC (fstC (sndC b155))))))))))))))))))))))))))))))))))), .inBlock 0, .code (sndC (sndC b155))]
noncomputable def k155_l1:List Item:=[.code (inC (inC (sndC (fstC (thenC (sndC (elseC (sndC (elseC (sndC (elseC (sndC (elseC (sndC (elseC (sndC (elseC (sndC (elseC (sndC (elseC (sndC (elseC (sndC (elseC (sndC (elseC (sndC (elseC (sndC (elseC (sndC (elseC (sndC (inC (sndC (fstC (sndC b155)))))))))))))))))))))))))))))))))))))), .inLoop (inC (inC (sndC (fstC (thenC (sndC (elseC (sndC (elseC (sndC (elseC (sndC (elseC (sndC (elseC (sndC (elseC (sndC (elseC (sndC (elseC (sndC (elseC (sndC (elseC (sndC (elseC (sndC (elseC (sndC (elseC (sndC (elseC (sndC (inC (sndC (fstC (sndC b155)))))))))))))))))))))))))))))))))))))), .inBlock 1, .code (sndC (thenC (sndC (elseC (sndC (elseC (sndC (elseC (sndC (elseC (sndC (elseC (sndC (elseC (sndC (elseC (sndC (elseC (sndC (elseC (sndC (elseC (sndC (elseC (sndC (elseC (sndC (elseC (sndC (elseC (sndC (inC (sndC (fstC (sndC b155))))))))))))))))))))))))))))))))))), .inBlock 0, .code (sndC (sndC b155))]
def a155 (m:Module) (f:Func) (i:Ins) (l:List Int):List (AV Ty):=[.agg [.sl false (91:Nat) m.externs, .sl false (94:Nat) m.globals, .sl false (96:Nat) m.tables, .sl false (33:Nat) m.funcs], .agg [.v (.string f.name), .v (.bool f.out), .sl false (3:Nat) f.params, .v (.int .i64 f.result), .sl false (44:Nat) f.blocks], .agg [.v (.int .i64 i.op), .v (.int .i64 i.type_), .v (.int .i64 i.to_), .v (.int .i64 i.sym_), .v (.int .i64 i.num), .sl false (3:Nat) i.args, .sl false (3:Nat) i.into], .sl false (3:Nat) l]
noncomputable def R155 (m:Module) (f:Func) (i:Ins) (l:List Int):St Ty→EvR:=resT tb C155 Try.f155.results.toList .keep (a155 m f i l)
def s155_l1 (m:Module) (f:Func) (i:Ins) (l:List Int) (v9:Int) (h0:List Ins):St Ty:=St.mk [(3, .sl false (3) l),(6, .ptr (0) [] (0) (0)),(9, .v (.int .i64 v9))] [some (Root.mk (46) false h0)]
def s155_j0 (m:Module) (f:Func) (i:Ins) (l:List Int):St Ty:=St.mk [] []
def s155_j1 (m:Module) (f:Func) (i:Ins) (l:List Int):St Ty:=St.mk [] []
theorem e155 (J m f i l):run tb C155 U155 J (R155 m f i l) 4096 [.code b155] ⟨slotsA (a155 m f i l) 0 0,heapA (a155 m f i l)⟩=
 if (i.op == 1)=true then
 if (i.type_ == 1)=false then
 if (i.type_ == 2)=true then
 if (i.num == 0)=false then
 some (.v (.bool (i.num == 1)),[.dead, .dead, .dead, .dead])
 else
 some (.v (.bool true),[.dead, .dead, .dead, .dead])
 else
 some (.v (.bool false),[.dead, .dead, .dead, .dead])
 else
 some (.v (.bool true),[.dead, .dead, .dead, .dead])
 else
 if (i.op == 2)=true then
 some (.v (.bool (i.type_ == 4)),[.dead, .dead, .dead, .dead])
 else
 if (i.op == 3)=true then
 some (.v (.bool (i.type_ == 3)),[.dead, .dead, .dead, .dead])
 else
 if (i.op == 18)=true then
 some (.v (.bool (i.type_ == 3)),[.dead, .dead, .dead, .dead])
 else
 if (i.op == 4)=true then
 if (i.type_ == 1)=true then
 if 0<(↑l.length:Int) then
 if (l.getD (Int.toNat 0) 0 == 1)=true then
 if 1<(↑l.length:Int) then
 some (.v (.bool (l.getD (Int.toNat 1) 0 == 1)),[.dead, .dead, .dead, .dead])
 else none
 else
 some (.v (.bool false),[.dead, .dead, .dead, .dead])
 else none
 else
 some (.v (.bool false),[.dead, .dead, .dead, .dead])
 else
 if (i.op == 5)=true then
 if (i.type_ == 1)=true then
 if 0<(↑l.length:Int) then
 if (l.getD (Int.toNat 0) 0 == 1)=true then
 if 1<(↑l.length:Int) then
 some (.v (.bool (l.getD (Int.toNat 1) 0 == 1)),[.dead, .dead, .dead, .dead])
 else none
 else
 some (.v (.bool false),[.dead, .dead, .dead, .dead])
 else none
 else
 some (.v (.bool false),[.dead, .dead, .dead, .dead])
 else
 if (i.op == 6)=true then
 if (i.type_ == 1)=true then
 if 0<(↑l.length:Int) then
 if (l.getD (Int.toNat 0) 0 == 1)=true then
 if 1<(↑l.length:Int) then
 some (.v (.bool (l.getD (Int.toNat 1) 0 == 1)),[.dead, .dead, .dead, .dead])
 else none
 else
 some (.v (.bool false),[.dead, .dead, .dead, .dead])
 else none
 else
 some (.v (.bool false),[.dead, .dead, .dead, .dead])
 else
 if (i.op == 7)=true then
 if (i.type_ == 1)=true then
 if 0<(↑l.length:Int) then
 if (l.getD (Int.toNat 0) 0 == 1)=true then
 if 1<(↑l.length:Int) then
 some (.v (.bool (l.getD (Int.toNat 1) 0 == 1)),[.dead, .dead, .dead, .dead])
 else none
 else
 some (.v (.bool false),[.dead, .dead, .dead, .dead])
 else none
 else
 some (.v (.bool false),[.dead, .dead, .dead, .dead])
 else
 if (i.op == 8)=true then
 if (i.type_ == 1)=true then
 if 0<(↑l.length:Int) then
 if (l.getD (Int.toNat 0) 0 == 1)=true then
 if 1<(↑l.length:Int) then
 some (.v (.bool (l.getD (Int.toNat 1) 0 == 1)),[.dead, .dead, .dead, .dead])
 else none
 else
 some (.v (.bool false),[.dead, .dead, .dead, .dead])
 else none
 else
 some (.v (.bool false),[.dead, .dead, .dead, .dead])
 else
 if (i.op == 9)=true then
 if (i.type_ == 1)=true then
 if 0<(↑l.length:Int) then
 if (l.getD (Int.toNat 0) 0 == 1)=true then
 if 1<(↑l.length:Int) then
 some (.v (.bool (l.getD (Int.toNat 1) 0 == 1)),[.dead, .dead, .dead, .dead])
 else none
 else
 some (.v (.bool false),[.dead, .dead, .dead, .dead])
 else none
 else
 some (.v (.bool false),[.dead, .dead, .dead, .dead])
 else
 if (i.op == 10)=true then
 if (i.type_ == 1)=true then
 if 0<(↑l.length:Int) then
 if (l.getD (Int.toNat 0) 0 == 1)=true then
 if 1<(↑l.length:Int) then
 some (.v (.bool (l.getD (Int.toNat 1) 0 == 1)),[.dead, .dead, .dead, .dead])
 else none
 else
 some (.v (.bool false),[.dead, .dead, .dead, .dead])
 else none
 else
 some (.v (.bool false),[.dead, .dead, .dead, .dead])
 else
 if (i.op == 11)=true then
 if (i.type_ == 1)=true then
 if 0<(↑l.length:Int) then
 if (l.getD (Int.toNat 0) 0 == 1)=true then
 if 1<(↑l.length:Int) then
 some (.v (.bool (l.getD (Int.toNat 1) 0 == 1)),[.dead, .dead, .dead, .dead])
 else none
 else
 some (.v (.bool false),[.dead, .dead, .dead, .dead])
 else none
 else
 some (.v (.bool false),[.dead, .dead, .dead, .dead])
 else
 if (i.op == 12)=true then
 if (i.type_ == 1)=true then
 if 0<(↑l.length:Int) then
 if (l.getD (Int.toNat 0) 0 == 1)=true then
 if 1<(↑l.length:Int) then
 some (.v (.bool (l.getD (Int.toNat 1) 0 == 1)),[.dead, .dead, .dead, .dead])
 else none
 else
 some (.v (.bool false),[.dead, .dead, .dead, .dead])
 else none
 else
 some (.v (.bool false),[.dead, .dead, .dead, .dead])
 else
 if (i.op == 13)=true then
 if (i.type_ == 1)=true then
 if 0<(↑l.length:Int) then
 if (l.getD (Int.toNat 0) 0 == 1)=true then
 if 1<(↑l.length:Int) then
 some (.v (.bool (l.getD (Int.toNat 1) 0 == 1)),[.dead, .dead, .dead, .dead])
 else none
 else
 some (.v (.bool false),[.dead, .dead, .dead, .dead])
 else none
 else
 some (.v (.bool false),[.dead, .dead, .dead, .dead])
 else
 if (i.op == 14)=true then
 if (i.type_ == 2)=true then
 if 0<(↑l.length:Int) then
 if (l.getD (Int.toNat 0) 0 == 1)=true then
 if 1<(↑l.length:Int) then
 some (.v (.bool (l.getD (Int.toNat 1) 0 == 1)),[.dead, .dead, .dead, .dead])
 else none
 else
 some (.v (.bool false),[.dead, .dead, .dead, .dead])
 else none
 else
 some (.v (.bool false),[.dead, .dead, .dead, .dead])
 else
 if (i.op == 15)=true then
 if (i.type_ == 2)=true then
 if 0<(↑l.length:Int) then
 if (l.getD (Int.toNat 0) 0 == 1)=true then
 if 1<(↑l.length:Int) then
 some (.v (.bool (l.getD (Int.toNat 1) 0 == 1)),[.dead, .dead, .dead, .dead])
 else none
 else
 some (.v (.bool false),[.dead, .dead, .dead, .dead])
 else none
 else
 some (.v (.bool false),[.dead, .dead, .dead, .dead])
 else
 if (i.op == 16)=true then
 if (i.type_ == 2)=true then
 if 0<(↑l.length:Int) then
 some (.v (.bool (l.getD (Int.toNat 0) 0 == 2)),[.dead, .dead, .dead, .dead])
 else none
 else
 some (.v (.bool false),[.dead, .dead, .dead, .dead])
 else
 if (i.op == 17)=true then
 if 0<(↑l.length:Int) then
 if (l.getD (Int.toNat 0) 0 == 2)=true then
 if 1<(↑l.length:Int) then
 if (l.getD (Int.toNat 1) 0 == i.type_)=true then
 if 2<(↑l.length:Int) then
 some (.v (.bool (l.getD (Int.toNat 2) 0 == i.type_)),[.dead, .dead, .dead, .dead])
 else none
 else
 some (.v (.bool false),[.dead, .dead, .dead, .dead])
 else none
 else
 some (.v (.bool false),[.dead, .dead, .dead, .dead])
 else none
 else
 if (i.op == 19)=true then
 if (i.type_ == 3)=true then
 if 0<(↑l.length:Int) then
 if (l.getD (Int.toNat 0) 0 == 3)=true then
 if 1<(↑l.length:Int) then
 some (.v (.bool (l.getD (Int.toNat 1) 0 == 1)),[.dead, .dead, .dead, .dead])
 else none
 else
 some (.v (.bool false),[.dead, .dead, .dead, .dead])
 else none
 else
 some (.v (.bool false),[.dead, .dead, .dead, .dead])
 else
 if (i.op == 20)=true then
 if (i.type_ == 1)=true then
 if 0<(↑l.length:Int) then
 some (.v (.bool (l.getD (Int.toNat 0) 0 == 3)),[.dead, .dead, .dead, .dead])
 else none
 else
 some (.v (.bool false),[.dead, .dead, .dead, .dead])
 else
 if (i.op == 21)=true then
 if 0<(↑l.length:Int) then
 if (l.getD (Int.toNat 0) 0 == 3)=true then
 if 1<(↑l.length:Int) then
 some (.v (.bool (l.getD (Int.toNat 1) 0 == 1)),[.dead, .dead, .dead, .dead])
 else none
 else
 some (.v (.bool false),[.dead, .dead, .dead, .dead])
 else none
 else
 if (i.op == 22)=true then
 if 0≤i.sym_ then
 if i.sym_<(↑m.funcs.length:Int) then
 if l.length≤4611686018427387904 then
 if same3 l (m.funcs.getD i.sym_.toNat (Func.mk ByteArray.empty false [] 0 [])).params=true then
 if 0≤i.sym_ then
 if i.sym_<(↑m.funcs.length:Int) then
 some (.v (.bool (i.type_ == (m.funcs.getD i.sym_.toNat (Func.mk ByteArray.empty false [] 0 [])).result)),[.dead, .dead, .dead, .dead])
 else none
 else none
 else
 some (.v (.bool false),[.dead, .dead, .dead, .dead])
 else none
 else none
 else none
 else
 if (i.op == 23)=true then
 if 0≤i.sym_ then
 if i.sym_<(↑m.externs.length:Int) then
 if l.length≤4611686018427387904 then
 if same3 l (m.externs.getD i.sym_.toNat (Extern.mk ByteArray.empty [] 0)).params=true then
 if 0≤i.sym_ then
 if i.sym_<(↑m.externs.length:Int) then
 some (.v (.bool (i.type_ == (m.externs.getD i.sym_.toNat (Extern.mk ByteArray.empty [] 0)).result)),[.dead, .dead, .dead, .dead])
 else none
 else none
 else
 some (.v (.bool false),[.dead, .dead, .dead, .dead])
 else none
 else none
 else none
 else
 if (i.op == 24)=true then
 if (i.type_ == 4)=true then
 if 0<(↑l.length:Int) then
 some (.v (.bool (l.getD (Int.toNat 0) 0 == 1)),[.dead, .dead, .dead, .dead])
 else none
 else
 some (.v (.bool false),[.dead, .dead, .dead, .dead])
 else
 if (i.op == 25)=true then
 if 0<(↑l.length:Int) then
 if (l.getD (Int.toNat 0) 0 == 4)=true then
 some (.v (.bool (i.type_ != 3)),[.dead, .dead, .dead, .dead])
 else
 some (.v (.bool false),[.dead, .dead, .dead, .dead])
 else none
 else
 if (i.op == 26)=true then
 J k155_l1 (s155_l1 m f i l 0 ([Ins.mk i.op i.type_ i.to_ i.sym_ i.num i.args i.into]))
 else
 if (i.op == 28)=true then
 if 0<(↑l.length:Int) then
 some (.v (.bool (l.getD (Int.toNat 0) 0 == 2)),[.dead, .dead, .dead, .dead])
 else none
 else
 if (i.op == 29)=true then
 if (f.result == 0)=true then
 some (.v (.bool ((↑l.length:Int) == 0)),[.dead, .dead, .dead, .dead])
 else
 if ((↑l.length:Int) == 1)=true then
 if 0<(↑l.length:Int) then
 some (.v (.bool (l.getD (Int.toNat 0) 0 == f.result)),[.dead, .dead, .dead, .dead])
 else none
 else
 some (.v (.bool false),[.dead, .dead, .dead, .dead])
 else
 J k155_j0 (s155_j0 m f i l):=by kernel_rfl
theorem e155_l1 (J m f i l v9 h0):run tb C155 U155 J (R155 m f i l) 4096 k155_l1 (s155_l1 m f i l v9 h0)=
 if decide (v9<(↑l.length:Int))=true then
 if 0≤v9 then
 if v9<(↑l.length:Int) then
 if (l.getD v9.toNat 0 != (h0.getD (0) (Ins.mk 0 0 0 0 0 [] [])).type_)=true then
 some (.v (.bool false),[.dead, .dead, .dead, .dead])
 else
 J k155_l1 (s155_l1 m f i l (IntKind.i64.wrap (v9+1)) h0)
 else none
 else none
 else
 J k155_j1 (s155_j1 m f i l):=by kernel_rfl
theorem e155_j0 (J m f i l):run tb C155 U155 J (R155 m f i l) 4096 k155_j0 (s155_j0 m f i l)=
 some (.v (.bool true),[.dead, .dead, .dead, .dead]):=by kernel_rfl
theorem e155_j1 (J m f i l):run tb C155 U155 J (R155 m f i l) 4096 k155_j1 (s155_j1 m f i l)=
 some (.v (.bool true),[.dead, .dead, .dead, .dead]):=by kernel_rfl

theorem in155:Entered 155:=⟨Try.f155,b155,by kernel_rfl,by kernel_rfl,by kernel_rfl⟩
theorem fn155 (m:Ev.Module) (f:Ev.Func) (i:Ev.Ins) (l:List Int) {res:AV Ty} {outs:List (AV Ty)} (h:Ends C155 U155 (R155 m f i l) [.code b155] ⟨slotsA (a155 m f i l) 0 0,heapA (a155 m f i l)⟩ (some (res,outs))):CallOk tb Try.prog 155 (a155 m f i l) res outs:=by
 obtain ⟨n0,hn⟩:=h
 exact fn_ok (C:=C155) (U:=U155) (n:=0+n0) (q:= .keep) tbOk good (fun f mu S h=>by
  unfold C155 at h
  simp only at h
  split at h
  ·cases h;exact ⟨in29,S29_ok⟩
  ·cases h) mixed (fn:=Try.f155) (body:=b155) (by kernel_rfl) (by kernel_rfl) rfl rfl (by show 4≤268;omega) (hn 0)
section
variable {m:Ev.Module} {f:Ev.Func} {i:Ev.Ins} {l:List Int}
theorem Fits.phi (h:l.length≤1000):Says C155 U155 (R155 m f i l) rD4 k155_l1 (s155_l1 m f i l (0:Nat) [i]) True:=by
 refine (Way.says (Q':=True) (Way.upto (fun j=>s155_l1 m f i l j [i]) l.length (fun _=>True) (fun j hj _=> ?_) _ (Nat.le_refl _)) fun _=> ?_).mono fun _=>trivial
 ·refine Way.of (fun J=>e155_l1 J m f i l j [i]) ?_
  have w:IntKind.i64.wrap ((j:Int)+1)=((j+1:Nat):Int):=wrap_nat (by omega) (by omega)
  simp only [List.getD_cons_zero,Int.toNat_natCast,w]
  repeat' first|refine tree_qt (fun _=> ?_) (fun _=> ?_)|refine tree_qf (fun _=> ?_) (fun _=> ?_)|refine tree_nt (fun _=> ?_) (fun _=> ?_)|refine tree_nf (fun _=> ?_) (fun _=> ?_)|refine tree_et (fun _=> ?_) (fun _=> ?_)|refine tree_ef (fun _=> ?_) (fun _=> ?_)|refine tree_dt (fun _=> ?_) (fun _=> ?_)|refine tree_df (fun _=> ?_) (fun _=> ?_)|refine tree_bt (fun _=> ?_) (fun _=> ?_)|refine tree_bf (fun _=> ?_) (fun _=> ?_)|refine tree_ite (fun _=> ?_) (fun _=> ?_)
  all_goals first|exact WayT.no (fun J=>rfl)|exact WayT.yes (fun J=>rfl) (trivial)|(exfalso;omega)
 refine Goes.says (k':=k155_j1) (s':=s155_j1 m f i l) (.step fun J=> ?_) (.yes (.step fun J=>e155_j1 ..) trivial)
 rw [e155_l1]
 simp only [List.getD_cons_zero,Int.toNat_natCast]
 simp (disch:=first|omega|assumption|(rw [dT];omega)|(rw [dF];omega)) only [↓iP,↓iN,iT,iF,wrap_up,tN,Nat.zero_add]
set_option maxHeartbeats 4000000 in
theorem fits_says (h:fitPre m i l):Says C155 U155 (R155 m f i l) rD4 [.code b155] ⟨slotsA (a155 m f i l) 0 0,heapA (a155 m f i l)⟩ True:=by
 obtain ⟨⟨⟨_,_,_,_,q1,_,_,q2⟩,_⟩,⟨y0,y1,y2,y3,y4,y5⟩,hl,hb⟩:=h
 have k2:(4≤i.op∧i.op≤15)∨i.op=19∨i.op=21→l.length=2:=fun e=>by
  have:markA i.op=2:=by
   unfold markA mark
   rw [if_neg (by omega),if_neg (by omega),if_pos (by omega)]
  omega
 have k1:i.op=16∨i.op=20∨i.op=24∨i.op=28→l.length=1:=fun e=>by
  have:markA i.op=1:=by rcases e with e|e|e|e<;>rw [e]<;>rfl
  omega
 have k3:i.op=17→l.length=3:=fun e=>by
  have:markA i.op=3:=by rw [e];rfl
  omega
 clear q1
 refine Says.of (fun J=>e155 J m f i l) ?_
 repeat' first|refine tree_qt (fun _=> ?_) (fun _=> ?_)|refine tree_qf (fun _=> ?_) (fun _=> ?_)|refine tree_nt (fun _=> ?_) (fun _=> ?_)|refine tree_nf (fun _=> ?_) (fun _=> ?_)|refine tree_et (fun _=> ?_) (fun _=> ?_)|refine tree_ef (fun _=> ?_) (fun _=> ?_)|refine tree_dt (fun _=> ?_) (fun _=> ?_)|refine tree_df (fun _=> ?_) (fun _=> ?_)|refine tree_bt (fun _=> ?_) (fun _=> ?_)|refine tree_bf (fun _=> ?_) (fun _=> ?_)|refine tree_ite (fun _=> ?_) (fun _=> ?_)
 all_goals first|exact .inl ⟨_,fun J=>rfl,fun _=>trivial⟩|exact SaysF.go (fun J=>rfl) (Fits.phi hb)|exact SaysF.go (fun J=>rfl) (.yes (.step fun J=>e155_j0 ..) trivial)|(exfalso;omega)
theorem fits_ok (h:fitPre m i l): ∃b,Tells 155 (a155 m f i l) [.dead, .dead, .dead, .dead] True b:=by
 obtain ⟨b,h,_⟩:=fits_says (f:=f) h
 exact ⟨b,fn155 m f i l h,fun _=>trivial⟩
end
noncomputable def fitsB (m:Ev.Module) (f:Ev.Func) (i:Ev.Ins) (l:List Int):Bool:=told 155 (a155 m f i l) [.dead, .dead, .dead, .dead] True
noncomputable def S155:List (AV Ty)→T (AV Ty×List (AV Ty))
 |[.agg x, .agg y, .agg z, .sl false 3 l]=>match cod27.dec false x,cod33.dec false y,cod46.dec false z with
  |some m,some f,some i=> .ite (fitPre m i l) (Classical.propDecidable _) (.ret (.v (.bool (fitsB m f i l)),[.dead, .dead, .dead, .dead])) .fail
  |_,_,_=> .fail
 |_=> .fail
theorem S155_ok (l:List (AV Ty)) (r:AV Ty) (outs:List (AV Ty)) (h:(S155 l).val=some (r,outs)):CallOk tb Try.prog 155 l r outs:=by
 unfold S155 at h
 split at h
 ·rename_i x y z l
  split at h
  ·rename_i m f i e1 e2 e3
   rcases ite_val h with ⟨e,h⟩|⟨_,h⟩
   ·cases h
    have h1:=cod27_ok.dec false x m e1
    have h2:=cod33_ok.dec false y f e2
    have h3:=cod46_ok.dec false z i e3
    subst h1 h2 h3
    exact (told_ok (fits_ok e)).1
   ·cases h
  ·cases h
 ·cases h
end Go.Proofs.Ytggibjbcbicpjaa.Ev
namespace Go.Proofs.Ytggibjbcbicpjaa.Ev
open Go
set_option linter.unusedVariables false
set_option linter.unusedSimpArgs false
section
variable {C:Cfg Ty} {U:Cuts} {Rt:St Ty→EvR} {k:List Item}
theorem Goes.shapeI {α:Type} (st:Nat→α→St Ty) (N:Nat) (P:Nat→α→Prop) (h: ∀i G,i<N→P i G→ ∃G',P (i+1) G'∧Goes C U Rt k (st i G) k (st (i+1) G')) (G:α) (h0:P 0 G):
  ∀i,i≤N→ ∃G',P i G'∧Goes C U Rt k (st 0 G) k (st i G')
 |0,_=>⟨G,h0, .refl⟩
 |i+1,hi=>by
  obtain ⟨G1,h1,g1⟩:=Goes.shapeI st N P h G h0 i (by omega)
  obtain ⟨G2,h2,g2⟩:=h i G1 (by omega) h1
  exact ⟨G2,h2,g1.trans g2⟩
end
def DomP (N a:Nat) (G:List (List Bool)):Prop:=G.length=N∧ ∀j,j<a→(G.getD j []).length=N
theorem DomP.set {N a b:Nat} {G:List (List Bool)} {x:List Bool} (h:DomP N a G) (hb:b<N) (hx:x.length=N) (hab:b≤a):DomP N (max a (b+1)) (G.set b x):=by
 refine ⟨by rw [List.length_set];exact h.1,fun j hj=> ?_⟩
 have hl:=h.1
 by_cases e:b=j
 ·subst e
  simp [List.getD,List.getElem?_set,show b<G.length by omega,hx]
 ·have:=h.2 j (by omega)
  simpa [List.getD,List.getElem?_set,e] using this
noncomputable def b154:Code:=bodyOf Try.f154
noncomputable def C154:Cfg Ty:=⟨fun
 |169=>some ([],S169)
 |151=>some ([],S151)
 |_=>none,fun
 |11=>true
 |24=>true
 |_=>false,63,0⟩
def U154:Cuts:=⟨fun
 |0=>some [(3,none)]
 |1=>some [(1,none),(3,none),(4,none),(5,none)]
 |2=>some [(1,none),(3,none),(4,none),(5,none)]
 |_=>none,fun
 |0=>some [(1,none),(3,none),(4,none),(5,none)]
 |2=>some [(1,none),(3,none),(4,none),(5,none),(6,none),(7,none)]
 |_=>none,fun _=>none⟩
noncomputable def k154_j0:List Item:=[.code (sndC (sndC (sndC (sndC b154))))]
noncomputable def k154_l0:List Item:=[.code (inC (inC (sndC (fstC (sndC (sndC (sndC b154))))))), .inLoop (inC (inC (sndC (fstC (sndC (sndC (sndC b154))))))), .inBlock 0, .code (sndC (sndC (sndC (sndC b154))))]
noncomputable def k154_j1:List Item:=[.code (sndC (sndC (inC (inC (sndC (fstC (sndC (sndC (sndC b154))))))))), .inLoop (inC (inC (sndC (fstC (sndC (sndC (sndC b154))))))), .inBlock 0, .code (sndC (sndC (sndC (sndC b154))))]
noncomputable def k154_j2:List Item:=[.inBlock 1, .code (sndC (sndC (inC (inC (sndC (fstC (sndC (sndC (sndC b154))))))))), .inLoop (inC (inC (sndC (fstC (sndC (sndC (sndC b154))))))), .inBlock 0, .code (sndC (sndC (sndC (sndC b154))))]
noncomputable def k154_l2:List Item:=[.code (inC (inC (sndC (sndC (sndC (sndC (inC (fstC (sndC (inC (inC (sndC (fstC (sndC (sndC (sndC b154)))))))))))))))), .inLoop (inC (inC (sndC (sndC (sndC (sndC (inC (fstC (sndC (inC (inC (sndC (fstC (sndC (sndC (sndC b154)))))))))))))))), .inBlock 2, .inBlock 1, .code (sndC (sndC (inC (inC (sndC (fstC (sndC (sndC (sndC b154))))))))), .inLoop (inC (inC (sndC (fstC (sndC (sndC (sndC b154))))))), .inBlock 0, .code (sndC (sndC (sndC (sndC b154))))]
def a154 (f:Func):List (AV Ty):=[.agg [.v (.string f.name), .v (.bool f.out), .sl false (3:Nat) f.params, .v (.int .i64 f.result), .sl false (44:Nat) f.blocks]]
noncomputable def R154 (f:Func):St Ty→EvR:=resT tb C154 Try.f154.results.toList (.fro 71) (a154 f)
def s154_l0 (f:Func) (v4:List Bool) (v5:Int) (h0:List Func) (h1:List (List Bool)):St Ty:=St.mk [(1, .ptr (0) [] (0) (0)),(3, .ref (1) [] none false),(4, .sl false (4) v4),(5, .v (.int .i64 v5))] [some (Root.mk (33) false h0),some (Root.mk (71) true h1)]
def s154_j1 (f:Func) (v4:List Bool) (v5:Int) (h0:List Func) (h1:List (List Bool)):St Ty:=St.mk [(1, .ptr (0) [] (0) (0)),(3, .ref (1) [] none false),(4, .sl false (4) v4),(5, .v (.int .i64 v5))] [some (Root.mk (33) false h0),some (Root.mk (71) true h1)]
def s154_l2 (f:Func) (v4:List Bool) (v5:Int) (v6:List Bool) (v7:Int) (h0:List Func) (h1:List (List Bool)):St Ty:=St.mk [(1, .ptr (0) [] (0) (0)),(3, .ref (1) [] none false),(4, .sl false (4) v4),(5, .v (.int .i64 v5)),(6, .sl false (4) v6),(7, .v (.int .i64 v7))] [some (Root.mk (33) false h0),some (Root.mk (71) true h1)]
def s154_j0 (f:Func) (h0:List (List Bool)):St Ty:=St.mk [(3, .ref (0) [] none false)] [some (Root.mk (71) true h0)]
def s154_j2 (f:Func) (v4:List Bool) (v5:Int) (h0:List Func) (h1:List (List Bool)):St Ty:=St.mk [(1, .ptr (0) [] (0) (0)),(3, .ref (1) [] none false),(4, .sl false (4) v4),(5, .v (.int .i64 v5))] [some (Root.mk (33) false h0),some (Root.mk (71) true h1)]
theorem e154 (J f):run tb C154 U154 J (R154 f) 4096 [.code b154] ⟨slotsA (a154 f) 0 0,heapA (a154 f)⟩=
 if 0≤(↑f.blocks.length:Int)∧(↑f.blocks.length:Int)≤(↑f.blocks.length:Int)∧(↑f.blocks.length:Int)≤1099511627776∧(↑f.blocks.length:Int)*(↑24:Int)≤1099511627776 then
 if okF (Func.mk f.name f.out f.params f.result f.blocks) then
 J k154_l0 (s154_l0 f (reachL (Func.mk f.name f.out f.params f.result f.blocks)) 0 ([Func.mk f.name f.out f.params f.result f.blocks]) (List.replicate (↑f.blocks.length:Int).toNat []))
 else none
 else none:=by kernel_rfl
theorem e154_l0 (J f v4 v5 h0 h1):run tb C154 U154 J (R154 f) 4096 k154_l0 (s154_l0 f v4 v5 h0 h1)=
 if decide (v5<(↑h1.length:Int))=true then
 if 0≤(↑v4.length:Int)∧(↑v4.length:Int)≤(↑v4.length:Int)∧(↑v4.length:Int)≤1099511627776∧(↑v4.length:Int)*(↑1:Int)≤1099511627776 then
 if 0≤v5 then
 if v5<(↑h1.length:Int) then
 if 0≤v5 then
 if v5<(↑v4.length:Int) then
 if (!v4.getD v5.toNat false)=true then
 J k154_j1 (s154_j1 f v4 v5 h0 (h1.set (0+v5.toNat) (List.replicate (↑v4.length:Int).toNat false)))
 else
 if okF (Func.mk (h0.getD (0) (Func.mk ByteArray.empty false [] 0 [])).name (h0.getD (0) (Func.mk ByteArray.empty false [] 0 [])).out (h0.getD (0) (Func.mk ByteArray.empty false [] 0 [])).params (h0.getD (0) (Func.mk ByteArray.empty false [] 0 [])).result (h0.getD (0) (Func.mk ByteArray.empty false [] 0 [])).blocks) then
 J k154_l2 (s154_l2 f v4 v5 (fromL (Func.mk (h0.getD (0) (Func.mk ByteArray.empty false [] 0 [])).name (h0.getD (0) (Func.mk ByteArray.empty false [] 0 [])).out (h0.getD (0) (Func.mk ByteArray.empty false [] 0 [])).params (h0.getD (0) (Func.mk ByteArray.empty false [] 0 [])).result (h0.getD (0) (Func.mk ByteArray.empty false [] 0 [])).blocks) 0 v5) 0 h0 (h1.set (0+v5.toNat) (List.replicate (↑v4.length:Int).toNat false)))
 else none
 else none
 else none
 else none
 else none
 else none
 else
 J k154_j0 (s154_j0 f h1):=by kernel_rfl
theorem e154_j1 (J f v4 v5 h0 h1):run tb C154 U154 J (R154 f) 4096 k154_j1 (s154_j1 f v4 v5 h0 h1)=
 J k154_l0 (s154_l0 f v4 (IntKind.i64.wrap (v5+1)) h0 h1):=by kernel_rfl
theorem e154_l2 (J f v4 v5 v6 v7 h0 h1):run tb C154 U154 J (R154 f) 4096 k154_l2 (s154_l2 f v4 v5 v6 v7 h0 h1)=
 if decide (v7<(↑v4.length:Int))=true then
 if 0≤v5 then
 if v5<(↑h1.length:Int) then
 if 0≤v7 then
 if v7<(↑v4.length:Int) then
 if v4.getD v7.toNat false=true then
 if (v5 == v7)=false then
 if 0≤v7 then
 if v7<(↑v6.length:Int) then
 if 0≤v7 then
 if v7<(↑(List.length (h1.getD (0+v5.toNat) [])):Int) then
 J k154_l2 (s154_l2 f v4 v5 v6 (IntKind.i64.wrap (v7+1)) h0 (h1.set (0+v5.toNat) (List.set (h1.getD (0+v5.toNat) []) (0+v7.toNat) !v6.getD v7.toNat false)))
 else none
 else none
 else none
 else none
 else
 if 0≤v7 then
 if v7<(↑(List.length (h1.getD (0+v5.toNat) [])):Int) then
 J k154_l2 (s154_l2 f v4 v5 v6 (IntKind.i64.wrap (v7+1)) h0 (h1.set (0+v5.toNat) (List.set (h1.getD (0+v5.toNat) []) (0+v7.toNat) true)))
 else none
 else none
 else
 if 0≤v7 then
 if v7<(↑(List.length (h1.getD (0+v5.toNat) [])):Int) then
 J k154_l2 (s154_l2 f v4 v5 v6 (IntKind.i64.wrap (v7+1)) h0 (h1.set (0+v5.toNat) (List.set (h1.getD (0+v5.toNat) []) (0+v7.toNat) false)))
 else none
 else none
 else none
 else none
 else none
 else none
 else
 J k154_j2 (s154_j2 f v4 v5 h0 h1):=by kernel_rfl
theorem e154_j0 (J f h0):run tb C154 U154 J (R154 f) 4096 k154_j0 (s154_j0 f h0)=
 some (.sl false (71) h0,[.dead]):=by kernel_rfl
theorem e154_j2 (J f v4 v5 h0 h1):run tb C154 U154 J (R154 f) 4096 k154_j2 (s154_j2 f v4 v5 h0 h1)=
 J k154_j1 (s154_j1 f v4 v5 h0 h1):=by kernel_rfl

theorem in154:Entered 154:=⟨Try.f154,b154,by kernel_rfl,by kernel_rfl,by kernel_rfl⟩
theorem fn154 (f:Ev.Func) {res:AV Ty} {outs:List (AV Ty)} (h:Ends C154 U154 (R154 f) [.code b154] ⟨slotsA (a154 f) 0 0,heapA (a154 f)⟩ (some (res,outs))):CallOk tb Try.prog 154 (a154 f) res outs:=by
 obtain ⟨n0,hn⟩:=h
 exact fn_ok (C:=C154) (U:=U154) (n:=0+n0) (q:=(.fro 71)) tbOk good (fun f mu S h=>by
  unfold C154 at h
  simp only at h
  split at h
  ·cases h;exact ⟨in169,S169_ok⟩
  ·cases h;exact ⟨in151,S151_ok⟩
  ·cases h) mixed (fn:=Try.f154) (body:=b154) (by kernel_rfl) (by kernel_rfl) rfl rfl (by show 1≤63;omega) (hn 0)
section
variable {f:Ev.Func}
theorem Doms.in (hf:okF f) {a i:Nat} (ha:a<f.blocks.length) (hi:i<f.blocks.length) {r w:List Bool} (hr:r.length=f.blocks.length) (hw:w.length=f.blocks.length) {G:List (List Bool)} (hG:DomP f.blocks.length (a+1) G): ∃G',DomP f.blocks.length (a+1) G'∧Goes C154 U154 (R154 f) k154_l2 (s154_l2 f r a w i [f] G) k154_l2 (s154_l2 f r a w (i+1:Nat) [f] G'):=by
 have h0:=hf.2.1
 have ww:IntKind.i64.wrap ((i:Int)+1)=((i+1:Nat):Int):=wrap_nat (by omega) (by omega)
 have hl:=hG.1
 have hrow:=hG.2 a (by omega)
 have hset: ∀v:Bool,DomP f.blocks.length (a+1) (G.set a ((G.getD a []).set i v)):=fun v=>by
  have:=hG.set (b:=a) (x:=(G.getD a []).set i v) ha (by rw [List.length_set];exact hrow) (by omega)
  rwa [Nat.max_self] at this
 cases h1:r.getD i false with
 |false=>
  refine ⟨_,hset false, .step fun J=> ?_⟩
  rw [e154_l2]
  simp only [Int.toNat_natCast,ww,Nat.zero_add,h1]
  simp (disch:=first|omega|assumption|(rw [dT];omega)|(rw [dF];omega)) only [↓iP,↓iN,iT,iF,wrap_up,tN,Nat.zero_add,Bool.false_eq_true]
 |true=>
  by_cases h2:a=i
  ·have h3:((a:Int) == (i:Int))=true:=by rw [h2];exact beq_self_eq_true _
   refine ⟨_,hset true, .step fun J=> ?_⟩
   rw [e154_l2]
   simp only [Int.toNat_natCast,ww,Nat.zero_add,h1,h3]
   simp (disch:=first|omega|assumption|(rw [dT];omega)|(rw [dF];omega)) only [↓iP,↓iN,iT,iF,wrap_up,tN,Nat.zero_add,Bool.true_eq_false]
  ·have h3:((a:Int) == (i:Int))=false:=by rw [beq_eq_false_iff_ne];omega
   refine ⟨_,hset (!w.getD i false), .step fun J=> ?_⟩
   rw [e154_l2]
   simp only [Int.toNat_natCast,ww,Nat.zero_add,h1,h3]
   simp (disch:=first|omega|assumption|(rw [dT];omega)|(rw [dF];omega)) only [↓iP,↓iN,iT,iF,wrap_up,tN,Nat.zero_add]
theorem Doms.row (hf:okF f) {a:Nat} (ha:a<f.blocks.length) {G:List (List Bool)} (hG:DomP f.blocks.length a G): ∃G',DomP f.blocks.length (a+1) G'∧Goes C154 U154 (R154 f) k154_l0 (s154_l0 f (reachL f) a [f] G) k154_l0 (s154_l0 f (reachL f) (a+1:Nat) [f] G'):=by
 have h0:=hf.2.1
 have ww:IntKind.i64.wrap ((a:Int)+1)=((a+1:Nat):Int):=wrap_nat (by omega) (by omega)
 have e0:(Func.mk f.name f.out f.params f.result f.blocks)=f:=rfl
 have hr:(reachL f).length=f.blocks.length:=(fromL_ok hf 0 (-1)).1
 have hl:=hG.1
 have hset:DomP f.blocks.length (a+1) (G.set a (List.replicate f.blocks.length false)):=by
  have:=hG.set (b:=a) (x:=List.replicate f.blocks.length false) ha List.length_replicate (Nat.le_refl _)
  rwa [Nat.max_eq_right (Nat.le_succ a)] at this
 have c1:0≤(f.blocks.length:Int)∧(f.blocks.length:Int)≤(f.blocks.length:Int)∧(f.blocks.length:Int)≤1099511627776∧(f.blocks.length:Int)*((1:Nat):Int)≤1099511627776:=by omega
 have back: ∀G',Goes C154 U154 (R154 f) k154_j1 (s154_j1 f (reachL f) a [f] G') k154_l0 (s154_l0 f (reachL f) (a+1:Nat) [f] G'):=fun G'=> .step fun J=>by rw [e154_j1,ww]
 cases h1:(reachL f).getD a false with
 |false=>
  refine ⟨_,hset, .trans (.step fun J=> ?_) (back _)⟩
  rw [e154_l0]
  simp only [Int.toNat_natCast,Nat.zero_add,h1,hr]
  simp (disch:=first|omega|assumption|(rw [dT];omega)|(rw [dF];omega)) only [↓iP,↓iN,iT,iF,wrap_up,tN,Nat.zero_add,c1,and_self,Bool.not_false]
 |true=>
  obtain ⟨G',g1,g2⟩:=Goes.shapeI (C:=C154) (U:=U154) (Rt:=R154 f) (k:=k154_l2) (fun (i:Nat) (G:List (List Bool))=>s154_l2 f (reachL f) a (fromL f 0 a) i [f] G) f.blocks.length (fun _=>DomP f.blocks.length (a+1)) (fun i G hi hP=>Doms.in hf ha hi hr (fromL_ok hf 0 a).1 hP) _ hset _ (Nat.le_refl _)
  refine ⟨G',g1, .trans (.step fun J=> ?_) (g2.trans (.trans (k':=k154_j2) (s':=s154_j2 f (reachL f) a [f] G') (.step fun J=> ?_) (.trans (.step fun J=>e154_j2 ..) (back _))))⟩
  ·rw [e154_l0]
   simp only [Int.toNat_natCast,Nat.zero_add,h1,hr,List.getD_cons_zero]
   rw [e0]
   simp (disch:=first|omega|assumption|(rw [dT];omega)|(rw [dF];omega)) only [↓iP,↓iN,iT,iF,wrap_up,tN,Nat.zero_add,c1,and_self,hf,Bool.not_true,Bool.false_eq_true]
   rfl
  ·rw [e154_l2]
   simp only [Int.toNat_natCast,Nat.zero_add,hr]
   simp (disch:=first|omega|assumption|(rw [dT];omega)|(rw [dF];omega)) only [↓iP,↓iN,iT,iF,wrap_up,tN,Nat.zero_add]
theorem doms_ex (f:Ev.Func) (hf:okF f): ∃l:List (List Bool),DomP f.blocks.length f.blocks.length l∧CallOk tb Try.prog 154 (a154 f) (.sl false 71 l) [.dead]:=by
 have h0:=hf.2.1
 have e0:(Func.mk f.name f.out f.params f.result f.blocks)=f:=rfl
 have c1:0≤(f.blocks.length:Int)∧(f.blocks.length:Int)≤(f.blocks.length:Int)∧(f.blocks.length:Int)≤1099511627776∧(f.blocks.length:Int)*((24:Nat):Int)≤1099511627776:=by omega
 obtain ⟨G',g1,g2⟩:=Goes.shapeI (C:=C154) (U:=U154) (Rt:=R154 f) (k:=k154_l0) (fun (i:Nat) (G:List (List Bool))=>s154_l0 f (reachL f) i [f] G) f.blocks.length (DomP f.blocks.length) (fun i G hi hP=>Doms.row hf hi hP) (List.replicate f.blocks.length []) ⟨List.length_replicate,fun j hj=>absurd hj (Nat.not_lt_zero _)⟩ _ (Nat.le_refl _)
 refine ⟨G',g1,fn154 f (Goes.ends (.step fun J=> ?_) (g2.ends (Goes.ends (k':=k154_j0) (s':=s154_j0 f G') (.step fun J=> ?_) (.step fun J=>e154_j0 ..))))⟩
 ·rw [e154,e0]
  simp (disch:=first|omega|assumption|(rw [dT];omega)|(rw [dF];omega)) only [↓iP,↓iN,iT,iF,wrap_up,tN,Nat.zero_add,c1,and_self,hf]
  rfl
 ·have hl:=g1.1
  rw [e154_l0]
  simp (disch:=first|omega|assumption|(rw [dT];omega)|(rw [dF];omega)) only [↓iP,↓iN,iT,iF,wrap_up,tN,Nat.zero_add]
end
noncomputable def domsL (f:Ev.Func):List (List Bool):=if h:okF f then Classical.choose (doms_ex f h) else []
theorem domsL_ok (f:Ev.Func) (h:okF f):DomP f.blocks.length f.blocks.length (domsL f)∧CallOk tb Try.prog 154 (a154 f) (.sl false 71 (domsL f)) [.dead]:=by
 unfold domsL
 rw [dif_pos h]
 exact Classical.choose_spec (doms_ex f h)
theorem doms_ok (f:Ev.Func) (h:okF f):CallOk tb Try.prog 154 (a154 f) (.sl false 71 (domsL f)) [.dead]:=(domsL_ok f h).2
noncomputable def S154:List (AV Ty)→T (AV Ty×List (AV Ty))
 |[.agg x]=>match cod33.dec false x with
  |some f=> .ite (okF f) (okF.dec f) (.ret (.sl false 71 (domsL f),[.dead])) .fail
  |none=> .fail
 |_=> .fail
theorem S154_ok (l:List (AV Ty)) (r:AV Ty) (outs:List (AV Ty)) (h:(S154 l).val=some (r,outs)):CallOk tb Try.prog 154 l r outs:=by
 unfold S154 at h
 split at h
 ·rename_i x
  split at h
  ·rename_i f e1
   rcases ite_val h with ⟨e,h⟩|⟨_,h⟩
   ·cases h
    have h1:=cod33_ok.dec false x f e1
    subst h1
    exact doms_ok f e
   ·cases h
  ·cases h
 ·cases h
end Go.Proofs.Ytggibjbcbicpjaa.Ev
