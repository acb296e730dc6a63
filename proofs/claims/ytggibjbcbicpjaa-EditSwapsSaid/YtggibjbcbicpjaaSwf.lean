/- The evaluator, what it gives of the functions that are called, and the plain law: part 6 of 6. -/
import Derived.Test.YtggibjbcbicpjaaSwe
namespace Go.Proofs.Ytggibjbcbicpjaa.Ev
open Go
set_option linter.unusedVariables false
set_option linter.unusedSimpArgs false
def WhereP (N L:Nat) (h:List S162):Prop:=h.length=L∧ ∀d,d∈h→d.a0<N
theorem WhereP.set {N L i:Nat} {h:List S162} {x:S162} (hP:WhereP N L h) (hx:x.a0<N):WhereP N L (h.set i x):=by
 refine ⟨by rw [List.length_set];exact hP.1,fun d hd=> ?_⟩
 rcases List.mem_or_eq_of_mem_set hd with hd|rfl
 ·exact hP.2 d hd
 ·exact hx
def loc (f:Ev.Func) (i k:Nat):Nat:=f.params.length+(tyB (f.blocks.take i)).length+(tyI ((f.blocks.getD i (Block.mk [])).ins.take k)).length
theorem loc_zero {f:Ev.Func} {i:Nat}:loc f i 0=f.params.length+(tyB (f.blocks.take i)).length:=by
 unfold loc
 rw [List.take_zero]
 rfl
theorem loc_next {f:Ev.Func} {i:Nat} (hi:i<f.blocks.length):loc f i (f.blocks.getD i (Block.mk [])).ins.length=loc f (i+1) 0:=by
 rw [loc_zero]
 unfold loc
 rw [List.take_length,tyB_step hi,List.length_append]
 omega
theorem loc_step {f:Ev.Func} {i k:Nat} (hk:k<(f.blocks.getD i (Block.mk [])).ins.length):loc f i (k+1)=loc f i k+(if ((f.blocks.getD i (Block.mk [])).ins.getD k (Ins.mk 0 0 0 0 0 [] [])).type_ != 0 then 1 else 0):=by
 unfold loc
 rw [tyI_step hk,List.length_append]
 split<;>simp<;>omega
theorem tyB_app (l l':List Ev.Block):tyB (l++l')=tyB l++tyB l':=by simp [tyB]
theorem tyI_app (l l':List Ev.Ins):tyI (l++l')=tyI l++tyI l':=by simp [tyI]
theorem loc_le {f:Ev.Func} {i k:Nat} (hi:i<f.blocks.length):loc f i k+1≤(typesOf f).length:=by
 have h1:(tyB f.blocks).length=(tyB (f.blocks.take (i+1))).length+(tyB (f.blocks.drop (i+1))).length:=by
  rw [←List.length_append,←tyB_app,List.take_append_drop]
 have h2:(tyI (f.blocks.getD i (Block.mk [])).ins).length=(tyI ((f.blocks.getD i (Block.mk [])).ins.take k)).length+(tyI ((f.blocks.getD i (Block.mk [])).ins.drop k)).length:=by
  rw [←List.length_append,←tyI_app,List.take_append_drop]
 rw [tyB_step hi,List.length_append] at h1
 unfold loc typesOf
 simp only [List.length_append,List.length_cons,List.length_nil]
 omega
theorem types_len {f:Ev.Func} (hf:okF f):(typesOf f).length=1+f.params.length+(tyB f.blocks).length∧(typesOf f).length≤1002000:=by
 have h1:=tyB_le f.blocks
 have h2:=hf.szt f.blocks.length
 rw [List.take_length] at h2
 have h3:=hf.1
 have e:(typesOf f).length=1+f.params.length+(tyB f.blocks).length:=by simp only [typesOf,List.length_append,List.length_singleton]
 exact ⟨e,by rw [e];omega⟩
noncomputable def b153:Code:=bodyOf Try.f153
noncomputable def C153:Cfg Ty:=⟨fun
 |21=>some ([],S21)
 |_=>none,fun
 |3=>true
 |_=>false,64,0⟩
def U153:Cuts:=⟨fun
 |0=>some [(1,none),(3,none)]
 |2=>some [(3,none)]
 |3=>some [(1,none),(3,none),(5,none),(6,none)]
 |4=>some [(1,none),(3,none),(5,none),(6,none)]
 |_=>none,fun
 |0=>some [(1,none),(3,none),(4,none)]
 |2=>some [(1,none),(3,none),(5,none),(6,none)]
 |4=>some [(1,none),(3,none),(5,none),(6,none),(7,none)]
 |_=>none,fun _=>none⟩
noncomputable def k153_j0:List Item:=[.code (sndC (sndC (sndC b153)))]
noncomputable def k153_l0:List Item:=[.code (inC (inC (sndC (fstC (sndC (sndC b153)))))), .inLoop (inC (inC (sndC (fstC (sndC (sndC b153)))))), .inBlock 0, .code (sndC (sndC (sndC b153)))]
noncomputable def k153_j2:List Item:=[.code (sndC (sndC (sndC (sndC (sndC b153)))))]
noncomputable def k153_l2:List Item:=[.code (inC (inC (sndC (fstC (sndC (sndC (sndC (sndC b153)))))))), .inLoop (inC (inC (sndC (fstC (sndC (sndC (sndC (sndC b153)))))))), .inBlock 2, .code (sndC (sndC (sndC (sndC (sndC b153)))))]
noncomputable def k153_j3:List Item:=[.code (sndC (sndC (inC (inC (sndC (fstC (sndC (sndC (sndC (sndC b153)))))))))), .inLoop (inC (inC (sndC (fstC (sndC (sndC (sndC (sndC b153)))))))), .inBlock 2, .code (sndC (sndC (sndC (sndC (sndC b153)))))]
noncomputable def k153_j4:List Item:=[.inBlock 3, .code (sndC (sndC (inC (inC (sndC (fstC (sndC (sndC (sndC (sndC b153)))))))))), .inLoop (inC (inC (sndC (fstC (sndC (sndC (sndC (sndC b153)))))))), .inBlock 2, .code (sndC (sndC (sndC (sndC (sndC b153)))))]
noncomputable def k153_l4:List Item:=[.code (inC (inC (sndC (inC (fstC (sndC (inC (inC (sndC (fstC (sndC (sndC (sndC (sndC b153)))))))))))))), .inLoop (inC (inC (sndC (inC (fstC (sndC (inC (inC (sndC (fstC (sndC (sndC (sndC (sndC b153)))))))))))))), .inBlock 4, .inBlock 3, .code (sndC (sndC (inC (inC (sndC (fstC (sndC (sndC (sndC (sndC b153)))))))))), .inLoop (inC (inC (sndC (fstC (sndC (sndC (sndC (sndC b153)))))))), .inBlock 2, .code (sndC (sndC (sndC (sndC (sndC b153)))))]
def a153 (f:Func):List (AV Ty):=[.agg [.v (.string f.name), .v (.bool f.out), .sl false (3:Nat) f.params, .v (.int .i64 f.result), .sl false (44:Nat) f.blocks]]
noncomputable def R153 (f:Func):St Ty→EvR:=resT tb C153 Try.f153.results.toList (.fro 162) (a153 f)
def s153_l0 (f:Func) (v4:Int) (h0:List Func) (h1:List S162):St Ty:=St.mk [(1, .ptr (0) [] (0) (0)),(3, .ref (1) [] none false),(4, .v (.int .i64 v4))] [some (Root.mk (33) false h0),some (Root.mk (162) false h1)]
def s153_j0 (f:Func) (h0:List Func) (h1:List S162):St Ty:=St.mk [(1, .ptr (0) [] (0) (0)),(3, .ref (1) [] none false)] [some (Root.mk (33) false h0),some (Root.mk (162) false h1)]
def s153_l2 (f:Func) (v5:Int) (v6:Int) (h0:List Func) (h1:List S162):St Ty:=St.mk [(1, .ptr (0) [] (0) (0)),(3, .ref (1) [] none false),(5, .v (.int .i64 v5)),(6, .v (.int .i64 v6))] [some (Root.mk (33) false h0),some (Root.mk (162) false h1)]
def s153_l4 (f:Func) (v5:Int) (v6:Int) (v7:Int) (h0:List Func) (h1:List S162):St Ty:=St.mk [(1, .ptr (0) [] (0) (0)),(3, .ref (1) [] none false),(5, .v (.int .i64 v5)),(6, .v (.int .i64 v6)),(7, .v (.int .i64 v7))] [some (Root.mk (33) false h0),some (Root.mk (162) false h1)]
def s153_j2 (f:Func) (h0:List S162):St Ty:=St.mk [(3, .ref (0) [] none false)] [some (Root.mk (162) false h0)]
def s153_j4 (f:Func) (v5:Int) (v6:Int) (h0:List Func) (h1:List S162):St Ty:=St.mk [(1, .ptr (0) [] (0) (0)),(3, .ref (1) [] none false),(5, .v (.int .i64 v5)),(6, .v (.int .i64 v6))] [some (Root.mk (33) false h0),some (Root.mk (162) false h1)]
def s153_j3 (f:Func) (v5:Int) (v6:Int) (h0:List Func) (h1:List S162):St Ty:=St.mk [(1, .ptr (0) [] (0) (0)),(3, .ref (1) [] none false),(5, .v (.int .i64 v5)),(6, .v (.int .i64 v6))] [some (Root.mk (33) false h0),some (Root.mk (162) false h1)]
theorem e153 (J f):run tb C153 U153 J (R153 f) 4096 [.code b153] ⟨slotsA (a153 f) 0 0,heapA (a153 f)⟩=
 if okF (Func.mk f.name f.out f.params f.result f.blocks) then
 if 0≤IntKind.i64.wrap ((↑(typesOf (Func.mk f.name f.out f.params f.result f.blocks)).length:Int)-1+1)∧IntKind.i64.wrap ((↑(typesOf (Func.mk f.name f.out f.params f.result f.blocks)).length:Int)-1+1)≤IntKind.i64.wrap ((↑(typesOf (Func.mk f.name f.out f.params f.result f.blocks)).length:Int)-1+1)∧IntKind.i64.wrap ((↑(typesOf (Func.mk f.name f.out f.params f.result f.blocks)).length:Int)-1+1)≤1099511627776∧IntKind.i64.wrap ((↑(typesOf (Func.mk f.name f.out f.params f.result f.blocks)).length:Int)-1+1)*(↑16:Int)≤1099511627776 then
 J k153_l0 (s153_l0 f 0 ([Func.mk f.name f.out f.params f.result f.blocks]) (List.replicate (IntKind.i64.wrap ((↑(typesOf (Func.mk f.name f.out f.params f.result f.blocks)).length:Int)-1+1)).toNat (S162.mk 0 0)))
 else none
 else none:=by kernel_rfl
theorem e153_l0 (J f v4 h0 h1):run tb C153 U153 J (R153 f) 4096 k153_l0 (s153_l0 f v4 h0 h1)=
 if decide (v4≤(↑(h0.getD (0) (Func.mk ByteArray.empty false [] 0 [])).params.length:Int))=true then
 if 0≤v4 then
 if v4<(↑h1.length:Int) then
 J k153_l0 (s153_l0 f (IntKind.i64.wrap (v4+1)) h0 (h1.set (0+v4.toNat) (S162.mk (-1:Int) (-1:Int))))
 else none
 else none
 else
 J k153_j0 (s153_j0 f h0 h1):=by kernel_rfl
theorem e153_j0 (J f h0 h1):run tb C153 U153 J (R153 f) 4096 k153_j0 (s153_j0 f h0 h1)=
 J k153_l2 (s153_l2 f ((↑(h0.getD (0) (Func.mk ByteArray.empty false [] 0 [])).params.length:Int)) 0 h0 h1):=by kernel_rfl
theorem e153_l2 (J f v5 v6 h0 h1):run tb C153 U153 J (R153 f) 4096 k153_l2 (s153_l2 f v5 v6 h0 h1)=
 if decide (v6<(↑(h0.getD (0) (Func.mk ByteArray.empty false [] 0 [])).blocks.length:Int))=true then
 J k153_l4 (s153_l4 f v5 v6 0 h0 h1)
 else
 J k153_j2 (s153_j2 f h1):=by kernel_rfl
theorem e153_l4 (J f v5 v6 v7 h0 h1):run tb C153 U153 J (R153 f) 4096 k153_l4 (s153_l4 f v5 v6 v7 h0 h1)=
 if 0≤v6 then
 if v6<(↑(h0.getD (0) (Func.mk ByteArray.empty false [] 0 [])).blocks.length:Int) then
 if decide (v7<(↑((h0.getD (0) (Func.mk ByteArray.empty false [] 0 [])).blocks.getD v6.toNat (Block.mk [])).ins.length:Int))=true then
 if 0≤v6 then
 if v6<(↑(h0.getD (0) (Func.mk ByteArray.empty false [] 0 [])).blocks.length:Int) then
 if 0≤v7 then
 if v7<(↑((h0.getD (0) (Func.mk ByteArray.empty false [] 0 [])).blocks.getD v6.toNat (Block.mk [])).ins.length:Int) then
 if ((rdI (h0.getD (0) (Func.mk ByteArray.empty false [] 0 [])).blocks v6.toNat v7.toNat).type_ != 0)=true then
 if 0≤IntKind.i64.wrap (v5+1) then
 if IntKind.i64.wrap (v5+1)<(↑h1.length:Int) then
 J k153_l4 (s153_l4 f (IntKind.i64.wrap (v5+1)) v6 (IntKind.i64.wrap (v7+1)) h0 (h1.set (0+(IntKind.i64.wrap (v5+1)).toNat) (S162.mk v6 v7)))
 else none
 else none
 else
 J k153_l4 (s153_l4 f v5 v6 (IntKind.i64.wrap (v7+1)) h0 h1)
 else none
 else none
 else none
 else none
 else
 J k153_j4 (s153_j4 f v5 v6 h0 h1)
 else none
 else none:=by kernel_rfl
theorem e153_j2 (J f h0):run tb C153 U153 J (R153 f) 4096 k153_j2 (s153_j2 f h0)=
 some (.sl false (162) h0,[.dead]):=by kernel_rfl
theorem e153_j4 (J f v5 v6 h0 h1):run tb C153 U153 J (R153 f) 4096 k153_j4 (s153_j4 f v5 v6 h0 h1)=
 J k153_j3 (s153_j3 f v5 v6 h0 h1):=by kernel_rfl
theorem e153_j3 (J f v5 v6 h0 h1):run tb C153 U153 J (R153 f) 4096 k153_j3 (s153_j3 f v5 v6 h0 h1)=
 J k153_l2 (s153_l2 f v5 (IntKind.i64.wrap (v6+1)) h0 h1):=by kernel_rfl

theorem in153:Entered 153:=⟨Try.f153,b153,by kernel_rfl,by kernel_rfl,by kernel_rfl⟩
theorem fn153 (f:Ev.Func) {res:AV Ty} {outs:List (AV Ty)} (h:Ends C153 U153 (R153 f) [.code b153] ⟨slotsA (a153 f) 0 0,heapA (a153 f)⟩ (some (res,outs))):CallOk tb Try.prog 153 (a153 f) res outs:=by
 obtain ⟨n0,hn⟩:=h
 exact fn_ok (C:=C153) (U:=U153) (n:=0+n0) (q:=(.fro 162)) tbOk good (fun f mu S h=>by
  unfold C153 at h
  simp only at h
  split at h
  ·cases h;exact ⟨in21,S21_ok⟩
  ·cases h) mixed (fn:=Try.f153) (body:=b153) (by kernel_rfl) (by kernel_rfl) rfl rfl (by show 1≤64;omega) (hn 0)
section
variable {f:Ev.Func}
theorem Where.in (hf:okF f) {i k:Nat} (hi:i<f.blocks.length) (hk:k<(f.blocks.getD i (Block.mk [])).ins.length) {G:List S162} (hG:WhereP f.blocks.length (typesOf f).length G): ∃G',WhereP f.blocks.length (typesOf f).length G'∧Goes C153 U153 (R153 f) k153_l4 (s153_l4 f (loc f i k) i k [f] G) k153_l4 (s153_l4 f (loc f i (k+1)) i (k+1:Nat) [f] G'):=by
 have h0:=hf.2.1
 have h1:=hf.b hi
 have h2:=types_len hf
 have hs:=loc_step hk
 have hle:=loc_le (k:=k+1) hi
 have hl:=hG.1
 have ww:IntKind.i64.wrap ((k:Int)+1)=((k+1:Nat):Int):=wrap_nat (by omega) (by omega)
 cases ht:(((f.blocks.getD i (Block.mk [])).ins.getD k (Ins.mk 0 0 0 0 0 [] [])).type_ != 0) with
 |false=>
  rw [ht] at hs
  simp only [Bool.false_eq_true,if_false,Nat.add_zero] at hs
  refine ⟨G,hG, .step fun J=> ?_⟩
  rw [e153_l4,hs]
  simp only [Int.toNat_natCast,ww,List.getD_cons_zero,rdI,ht]
  simp (disch:=first|omega|assumption|(rw [dT];omega)|(rw [dF];omega)) only [↓iP,↓iN,iT,iF,wrap_up,tN,Nat.zero_add,Bool.false_eq_true]
 |true=>
  rw [ht] at hs
  simp only [if_true] at hs
  have w2:IntKind.i64.wrap ((loc f i k:Int)+1)=((loc f i k+1:Nat):Int):=wrap_nat (by omega) (by omega)
  refine ⟨G.set (loc f i k+1) ⟨i,k⟩,hG.set (by simp only;omega), .step fun J=> ?_⟩
  rw [e153_l4,hs]
  simp only [w2,Int.toNat_natCast,ww,List.getD_cons_zero,rdI,ht,Nat.zero_add]
  simp (disch:=first|omega|assumption|(rw [dT];omega)|(rw [dF];omega)) only [↓iP,↓iN,iT,iF,wrap_up,tN,Nat.zero_add]
theorem Where.block (hf:okF f) {i:Nat} (hi:i<f.blocks.length) {G:List S162} (hG:WhereP f.blocks.length (typesOf f).length G): ∃G',WhereP f.blocks.length (typesOf f).length G'∧Goes C153 U153 (R153 f) k153_l2 (s153_l2 f (loc f i 0) i [f] G) k153_l2 (s153_l2 f (loc f (i+1) 0) (i+1:Nat) [f] G'):=by
 have h0:=hf.2.1
 have ww:IntKind.i64.wrap ((i:Int)+1)=((i+1:Nat):Int):=wrap_nat (by omega) (by omega)
 obtain ⟨G',g1,g2⟩:=Goes.shapeI (C:=C153) (U:=U153) (Rt:=R153 f) (k:=k153_l4) (fun (k:Nat) (G:List S162)=>s153_l4 f (loc f i k) i k [f] G) (f.blocks.getD i (Block.mk [])).ins.length (fun _=>WhereP f.blocks.length (typesOf f).length) (fun k G hk hP=>Where.in hf hi hk hP) G hG _ (Nat.le_refl _)
 rw [loc_next hi] at g2
 refine ⟨G',g1, .trans (.step fun J=> ?_) (g2.trans (.trans (k':=k153_j4) (s':=s153_j4 f (loc f (i+1) 0) i [f] G') (.step fun J=> ?_) (.trans (.step fun J=>e153_j4 ..) (.step fun J=> ?_))))⟩
 ·rw [e153_l2]
  simp only [Int.toNat_natCast,List.getD_cons_zero]
  simp (disch:=first|omega|assumption|(rw [dT];omega)|(rw [dF];omega)) only [↓iP,↓iN,iT,iF,wrap_up,tN,Nat.zero_add]
  rfl
 ·rw [e153_l4]
  simp only [Int.toNat_natCast,List.getD_cons_zero]
  simp (disch:=first|omega|assumption|(rw [dT];omega)|(rw [dF];omega)) only [↓iP,↓iN,iT,iF,wrap_up,tN,Nat.zero_add]
 ·rw [e153_j3,ww]
theorem where_ex (f:Ev.Func) (hf:okF f∧1≤f.blocks.length): ∃l:List S162,WhereP f.blocks.length (typesOf f).length l∧CallOk tb Try.prog 153 (a153 f) (.sl false 162 l) [.dead]:=by
 obtain ⟨hf,h1⟩:=hf
 have h0:=hf.2.1
 have hp:=hf.1
 obtain ⟨t1,t2⟩:=types_len hf
 have e0:(Func.mk f.name f.out f.params f.result f.blocks)=f:=rfl
 have w:IntKind.i64.wrap (((typesOf f).length:Int)-1+1)=((typesOf f).length:Int):=wrap_nat (by omega) (by omega)
 obtain ⟨G1,g1,g2⟩:=Goes.shapeI (C:=C153) (U:=U153) (Rt:=R153 f) (k:=k153_l0) (fun (k:Nat) (G:List S162)=>s153_l0 f k [f] G) (f.params.length+1) (fun _=>WhereP f.blocks.length (typesOf f).length) (fun k G hk hP=>⟨G.set k ⟨-1,-1⟩,hP.set (by simp only;omega), .step fun J=>by
  have hl:=hP.1
  have ww:IntKind.i64.wrap ((k:Int)+1)=((k+1:Nat):Int):=wrap_nat (by omega) (by omega)
  rw [e153_l0]
  simp only [Int.toNat_natCast,ww,List.getD_cons_zero,Nat.zero_add]
  simp (disch:=first|omega|assumption|(rw [dT];omega)|(rw [dF];omega)) only [↓iP,↓iN,iT,iF,wrap_up,tN,Nat.zero_add]⟩) (List.replicate (typesOf f).length ⟨0,0⟩) ⟨List.length_replicate,fun d hd=>by
   have:=List.eq_of_mem_replicate hd
   subst this
   simp only
   omega⟩ _ (Nat.le_refl _)
 obtain ⟨G2,g3,g4⟩:=Goes.shapeI (C:=C153) (U:=U153) (Rt:=R153 f) (k:=k153_l2) (fun (i:Nat) (G:List S162)=>s153_l2 f (loc f i 0) i [f] G) f.blocks.length (fun _=>WhereP f.blocks.length (typesOf f).length) (fun i G hi hP=>Where.block hf hi hP) G1 g1 _ (Nat.le_refl _)
 refine ⟨G2,g3,fn153 f (Goes.ends (.step fun J=> ?_) (g2.ends (Goes.ends (k':=k153_j0) (s':=s153_j0 f [f] G1) (.step fun J=> ?_) (Goes.ends (.step fun J=> ?_) (g4.ends (Goes.ends (k':=k153_j2) (s':=s153_j2 f G2) (.step fun J=> ?_) (.step fun J=>e153_j2 ..)))))))⟩
 ·rw [e153,e0,w]
  have c1:0≤((typesOf f).length:Int)∧((typesOf f).length:Int)≤((typesOf f).length:Int)∧((typesOf f).length:Int)≤1099511627776∧((typesOf f).length:Int)*((16:Nat):Int)≤1099511627776:=by omega
  simp (disch:=first|omega|assumption|(rw [dT];omega)|(rw [dF];omega)) only [↓iP,↓iN,iT,iF,wrap_up,tN,Nat.zero_add,hf,c1,and_self]
  rfl
 ·rw [e153_l0]
  simp only [List.getD_cons_zero]
  simp (disch:=first|omega|assumption|(rw [dT];omega)|(rw [dF];omega)) only [↓iP,↓iN,iT,iF,wrap_up,tN,Nat.zero_add]
 ·rw [e153_j0,loc_zero]
  rfl
 ·rw [e153_l2]
  simp only [List.getD_cons_zero]
  simp (disch:=first|omega|assumption|(rw [dT];omega)|(rw [dF];omega)) only [↓iP,↓iN,iT,iF,wrap_up,tN,Nat.zero_add]
end
def wherePre (f:Ev.Func):Prop:=okF f∧1≤f.blocks.length
instance wherePre.dec (f:Ev.Func):Decidable (wherePre f):=by unfold wherePre;infer_instance
noncomputable def whereL (f:Ev.Func):List S162:=if h:okF f∧1≤f.blocks.length then Classical.choose (where_ex f h) else []
theorem whereL_ok (f:Ev.Func) (h:wherePre f):WhereP f.blocks.length (typesOf f).length (whereL f)∧CallOk tb Try.prog 153 (a153 f) (.sl false 162 (whereL f)) [.dead]:=by
 have h:okF f∧1≤f.blocks.length:=h
 unfold whereL
 rw [dif_pos h]
 exact Classical.choose_spec (where_ex f h)
theorem where_ok (f:Ev.Func) (h:wherePre f):CallOk tb Try.prog 153 (a153 f) (.sl false 162 (whereL f)) [.dead]:=(whereL_ok f h).2
noncomputable def S153:List (AV Ty)→T (AV Ty×List (AV Ty))
 |[.agg x]=>match cod33.dec false x with
  |some f=> .ite (wherePre f) (wherePre.dec f) (.ret (.sl false 162 (whereL f),[.dead])) .fail
  |none=> .fail
 |_=> .fail
theorem S153_ok (l:List (AV Ty)) (r:AV Ty) (outs:List (AV Ty)) (h:(S153 l).val=some (r,outs)):CallOk tb Try.prog 153 l r outs:=by
 unfold S153 at h
 split at h
 ·rename_i x
  split at h
  ·rename_i f e1
   rcases ite_val h with ⟨e,h⟩|⟨_,h⟩
   ·cases h
    have h1:=cod33_ok.dec false x f e1
    subst h1
    exact where_ok f e
   ·cases h
  ·cases h
 ·cases h
end Go.Proofs.Ytggibjbcbicpjaa.Ev
namespace Go.Proofs.Ytggibjbcbicpjaa.Ev
open Go
set_option linter.unusedVariables false
set_option linter.unusedSimpArgs false
def flowPre (f:Ev.Func):Prop:=okF f∧FnQ f
def FlowQ (f:Ev.Func):Prop:=(∀b,b<f.blocks.length→0<(f.blocks.getD b (Block.mk [])).ins.length)∧ ∀b,b<f.blocks.length→ ∀k,k<(f.blocks.getD b (Block.mk [])).ins.length→((f.blocks.getD b (Block.mk [])).ins.getD k (Ins.mk 0 0 0 0 0 [] [])).op=26→b≠0∧((f.blocks.getD b (Block.mk [])).ins.getD k (Ins.mk 0 0 0 0 0 [] [])).into=(prevL f).getD b []
theorem same3_eq {a b:List Int} (h:same3 a b=true):a=b:=by simpa [same3] using h
noncomputable def b128:Code:=bodyOf Try.f128
noncomputable def C128:Cfg Ty:=⟨fun
 |150=>some ([],S150)
 |151=>some ([],S151)
 |152=>some ([],S152)
 |29=>some ([],S29)
 |_=>none,fun _=>false,163,0⟩
def U128:Cuts:=⟨fun
 |0=>some [(1,none)]
 |1=>some [(1,none),(3,none)]
 |2=>some [(1,none),(3,none),(4,none)]
 |4=>some [(1,none),(3,none),(6,none)]
 |6=>some []
 |7=>some [(1,none),(8,none),(9,none),(10,none)]
 |8=>some [(1,none),(8,none),(9,none),(10,none)]
 |_=>none,fun
 |0=>some [(1,none),(3,none)]
 |2=>some [(1,none),(3,none),(4,none),(5,none)]
 |4=>some [(1,none),(3,none),(6,none),(7,none)]
 |6=>some [(1,none),(8,none),(9,none),(10,none)]
 |8=>some [(1,none),(8,none),(9,none),(10,none),(11,none),(12,none)]
 |_=>none,fun
 |16=>some [0,1,2,3,4,5,6,7,8,9,10,11,12,13,14,15,16]
 |18=>some [0,1,2,3,4,5,6,7,8,9,10,11,12,13]
 |20=>some [0,2,1,3,4,5]
 |30=>some [0,1,2,3,4,5,6,7,8,9,10,11,12,13,14,15,16,17,18,19,20,21,22]
 |_=>none⟩
noncomputable def k128_j0:List Item:=[.code (sndC (sndC b128))]
noncomputable def k128_l0:List Item:=[.code (inC (inC (sndC (fstC (sndC b128))))), .inLoop (inC (inC (sndC (fstC (sndC b128))))), .inBlock 0, .code (sndC (sndC b128))]
noncomputable def k128_j1:List Item:=[.code (sndC (sndC (inC (inC (sndC (fstC (sndC b128))))))), .inLoop (inC (inC (sndC (fstC (sndC b128))))), .inBlock 0, .code (sndC (sndC b128))]
noncomputable def k128_j2:List Item:=[.code (sndC (sndC (sndC (inC (fstC (sndC (inC (inC (sndC (fstC (sndC b128))))))))))), .inBlock 1, .code (sndC (sndC (inC (inC (sndC (fstC (sndC b128))))))), .inLoop (inC (inC (sndC (fstC (sndC b128))))), .inBlock 0, .code (sndC (sndC b128))]
noncomputable def k128_l2:List Item:=[.code (inC (inC (sndC (fstC (sndC (sndC (inC (fstC (sndC (inC (inC (sndC (fstC (sndC b128)))))))))))))), .inLoop (inC (inC (sndC (fstC (sndC (sndC (inC (fstC (sndC (inC (inC (sndC (fstC (sndC b128)))))))))))))), .inBlock 2, .code (sndC (sndC (sndC (inC (fstC (sndC (inC (inC (sndC (fstC (sndC b128))))))))))), .inBlock 1, .code (sndC (sndC (inC (inC (sndC (fstC (sndC b128))))))), .inLoop (inC (inC (sndC (fstC (sndC b128))))), .inBlock 0, .code (sndC (sndC b128))]
noncomputable def k128_j4:List Item:=[.code (sndC (sndC (sndC (sndC (sndC (inC (fstC (sndC (inC (inC (sndC (fstC (sndC b128))))))))))))), .inBlock 1, .code (sndC (sndC (inC (inC (sndC (fstC (sndC b128))))))), .inLoop (inC (inC (sndC (fstC (sndC b128))))), .inBlock 0, .code (sndC (sndC b128))]
noncomputable def k128_l4:List Item:=[.code (inC (inC (sndC (fstC (sndC (sndC (sndC (sndC (inC (fstC (sndC (inC (inC (sndC (fstC (sndC b128)))))))))))))))), .inLoop (inC (inC (sndC (fstC (sndC (sndC (sndC (sndC (inC (fstC (sndC (inC (inC (sndC (fstC (sndC b128)))))))))))))))), .inBlock 4, .code (sndC (sndC (sndC (sndC (sndC (inC (fstC (sndC (inC (inC (sndC (fstC (sndC b128))))))))))))), .inBlock 1, .code (sndC (sndC (inC (inC (sndC (fstC (sndC b128))))))), .inLoop (inC (inC (sndC (fstC (sndC b128))))), .inBlock 0, .code (sndC (sndC b128))]
noncomputable def k128_j6:List Item:=[.code (sndC (sndC (sndC (sndC b128))))]
noncomputable def k128_l6:List Item:=[.code (inC (inC (sndC (fstC (sndC (sndC (sndC b128))))))), .inLoop (inC (inC (sndC (fstC (sndC (sndC (sndC b128))))))), .inBlock 6, .code (sndC (sndC (sndC (sndC b128))))]
noncomputable def k128_j7:List Item:=[.code (sndC (sndC (inC (inC (sndC (fstC (sndC (sndC (sndC b128))))))))), .inLoop (inC (inC (sndC (fstC (sndC (sndC (sndC b128))))))), .inBlock 6, .code (sndC (sndC (sndC (sndC b128))))]
noncomputable def k128_j8:List Item:=[.inBlock 7, .code (sndC (sndC (inC (inC (sndC (fstC (sndC (sndC (sndC b128))))))))), .inLoop (inC (inC (sndC (fstC (sndC (sndC (sndC b128))))))), .inBlock 6, .code (sndC (sndC (sndC (sndC b128))))]
noncomputable def k128_l8:List Item:=[.code (inC (inC (sndC (sndC (sndC (inC (fstC (sndC (inC (inC (sndC (fstC (sndC (sndC (sndC b128))))))))))))))), .inLoop (inC (inC (sndC (sndC (sndC (inC (fstC (sndC (inC (inC (sndC (fstC (sndC (sndC (sndC b128))))))))))))))), .inBlock 8, .inBlock 7, .code (sndC (sndC (inC (inC (sndC (fstC (sndC (sndC (sndC b128))))))))), .inLoop (inC (inC (sndC (fstC (sndC (sndC (sndC b128))))))), .inBlock 6, .code (sndC (sndC (sndC (sndC b128))))]
def a128 (f:Func):List (AV Ty):=[.agg [.v (.string f.name), .v (.bool f.out), .sl false (3:Nat) f.params, .v (.int .i64 f.result), .sl false (44:Nat) f.blocks]]
noncomputable def R128 (f:Func):St Ty→EvR:=resT tb C128 Try.f128.results.toList .keep (a128 f)
def s128_l0 (f:Func) (v3:Int) (h0:List Func):St Ty:=St.mk [(1, .ptr (0) [] (0) (0)),(3, .v (.int .i64 v3))] [some (Root.mk (33) false h0)]
def s128_l2 (f:Func) (v3:Int) (v4:List Ins) (v5:Int) (h0:List Func):St Ty:=St.mk [(1, .ptr (0) [] (0) (0)),(3, .v (.int .i64 v3)),(4, .sl false (46) v4),(5, .v (.int .i64 v5))] [some (Root.mk (33) false h0)]
def s128_j0 (f:Func) (h0:List Func):St Ty:=St.mk [(1, .ptr (0) [] (0) (0))] [some (Root.mk (33) false h0)]
def s128_j2 (f:Func) (v3:Int) (v4:List Ins) (h0:List Func):St Ty:=St.mk [(1, .ptr (0) [] (0) (0)),(3, .v (.int .i64 v3)),(4, .sl false (46) v4)] [some (Root.mk (33) false h0)]
def s128_l6 (f:Func) (v8:List Bool) (v9:List (List Int)) (v10:Int) (h0:List Func):St Ty:=St.mk [(1, .ptr (0) [] (0) (0)),(8, .sl false (4) v8),(9, .sl false (30) v9),(10, .v (.int .i64 v10))] [some (Root.mk (33) false h0)]
def s128_l4 (f:Func) (v3:Int) (v7:Int) (h0:List Func) (h1:List Ins):St Ty:=St.mk [(1, .ptr (0) [] (0) (0)),(3, .v (.int .i64 v3)),(6, .ptr (1) [] (0) (0)),(7, .v (.int .i64 v7))] [some (Root.mk (33) false h0),some (Root.mk (46) false h1)]
def s128_l8 (f:Func) (v8:List Bool) (v9:List (List Int)) (v10:Int) (v11:List Ins) (v12:Int) (h0:List Func):St Ty:=St.mk [(1, .ptr (0) [] (0) (0)),(8, .sl false (4) v8),(9, .sl false (30) v9),(10, .v (.int .i64 v10)),(11, .sl false (46) v11),(12, .v (.int .i64 v12))] [some (Root.mk (33) false h0)]
def s128_j6 (f:Func):St Ty:=St.mk [] []
def s128_j4 (f:Func) (v3:Int) (h0:List Func) (h1:List Ins):St Ty:=St.mk [(1, .ptr (0) [] (0) (0)),(3, .v (.int .i64 v3)),(6, .ptr (1) [] (0) (0))] [some (Root.mk (33) false h0),some (Root.mk (46) false h1)]
def s128_j8 (f:Func) (v8:List Bool) (v9:List (List Int)) (v10:Int) (h0:List Func):St Ty:=St.mk [(1, .ptr (0) [] (0) (0)),(8, .sl false (4) v8),(9, .sl false (30) v9),(10, .v (.int .i64 v10))] [some (Root.mk (33) false h0)]
def s128_j1 (f:Func) (v3:Int) (h0:List Func):St Ty:=St.mk [(1, .ptr (0) [] (0) (0)),(3, .v (.int .i64 v3))] [some (Root.mk (33) false h0)]
def s128_j7 (f:Func) (v8:List Bool) (v9:List (List Int)) (v10:Int) (h0:List Func):St Ty:=St.mk [(1, .ptr (0) [] (0) (0)),(8, .sl false (4) v8),(9, .sl false (30) v9),(10, .v (.int .i64 v10))] [some (Root.mk (33) false h0)]
theorem e128 (J f):run tb C128 U128 J (R128 f) 4096 [.code b128] ⟨slotsA (a128 f) 0 0,heapA (a128 f)⟩=
 J k128_l0 (s128_l0 f 0 ([Func.mk f.name f.out f.params f.result f.blocks])):=by kernel_rfl
theorem e128_l0 (J f v3 h0):run tb C128 U128 J (R128 f) 4096 k128_l0 (s128_l0 f v3 h0)=
 if decide (v3<(↑(h0.getD (0) (Func.mk ByteArray.empty false [] 0 [])).blocks.length:Int))=true then
 if 0≤v3 then
 if v3<(↑(h0.getD (0) (Func.mk ByteArray.empty false [] 0 [])).blocks.length:Int) then
 if ((↑((h0.getD (0) (Func.mk ByteArray.empty false [] 0 [])).blocks.getD v3.toNat (Block.mk [])).ins.length:Int) == 0)=true then
 some (.v (.bool false),[.dead])
 else
 J k128_l2 (s128_l2 f v3 (((h0.getD (0) (Func.mk ByteArray.empty false [] 0 [])).blocks.getD v3.toNat (Block.mk [])).ins) 0 h0)
 else none
 else none
 else
 J k128_j0 (s128_j0 f h0):=by kernel_rfl
theorem e128_l2 (J f v3 v4 v5 h0):run tb C128 U128 J (R128 f) 4096 k128_l2 (s128_l2 f v3 v4 v5 h0)=
 if decide (v5<(↑v4.length:Int))=true then
 if 0≤v5 then
 if v5<(↑v4.length:Int) then
 if (!endsB (v4.getD v5.toNat (Ins.mk 0 0 0 0 0 [] [])).op == (v5 == IntKind.i64.wrap ((↑v4.length:Int)-1)))=false then
 if decide (v5>0)=true then
 if 0≤v5 then
 if v5<(↑v4.length:Int) then
 if ((v4.getD v5.toNat (Ins.mk 0 0 0 0 0 [] [])).op == 26)=true then
 if 0≤IntKind.i64.wrap (v5-1) then
 if IntKind.i64.wrap (v5-1)<(↑v4.length:Int) then
 if ((v4.getD (IntKind.i64.wrap (v5-1)).toNat (Ins.mk 0 0 0 0 0 [] [])).op != 26)=true then
 some (.v (.bool false),[.dead])
 else
 J k128_l2 (s128_l2 f v3 v4 (IntKind.i64.wrap (v5+1)) h0)
 else none
 else none
 else
 J k128_l2 (s128_l2 f v3 v4 (IntKind.i64.wrap (v5+1)) h0)
 else none
 else none
 else
 J k128_l2 (s128_l2 f v3 v4 (IntKind.i64.wrap (v5+1)) h0)
 else
 some (.v (.bool false),[.dead])
 else none
 else none
 else
 J k128_j2 (s128_j2 f v3 v4 h0):=by kernel_rfl
theorem e128_j0 (J f h0):run tb C128 U128 J (R128 f) 4096 k128_j0 (s128_j0 f h0)=
 if okF (Func.mk (h0.getD (0) (Func.mk ByteArray.empty false [] 0 [])).name (h0.getD (0) (Func.mk ByteArray.empty false [] 0 [])).out (h0.getD (0) (Func.mk ByteArray.empty false [] 0 [])).params (h0.getD (0) (Func.mk ByteArray.empty false [] 0 [])).result (h0.getD (0) (Func.mk ByteArray.empty false [] 0 [])).blocks) then
 if okF (Func.mk (h0.getD (0) (Func.mk ByteArray.empty false [] 0 [])).name (h0.getD (0) (Func.mk ByteArray.empty false [] 0 [])).out (h0.getD (0) (Func.mk ByteArray.empty false [] 0 [])).params (h0.getD (0) (Func.mk ByteArray.empty false [] 0 [])).result (h0.getD (0) (Func.mk ByteArray.empty false [] 0 [])).blocks) then
 J k128_l6 (s128_l6 f (reachL (Func.mk (h0.getD (0) (Func.mk ByteArray.empty false [] 0 [])).name (h0.getD (0) (Func.mk ByteArray.empty false [] 0 [])).out (h0.getD (0) (Func.mk ByteArray.empty false [] 0 [])).params (h0.getD (0) (Func.mk ByteArray.empty false [] 0 [])).result (h0.getD (0) (Func.mk ByteArray.empty false [] 0 [])).blocks)) (prevL (Func.mk (h0.getD (0) (Func.mk ByteArray.empty false [] 0 [])).name (h0.getD (0) (Func.mk ByteArray.empty false [] 0 [])).out (h0.getD (0) (Func.mk ByteArray.empty false [] 0 [])).params (h0.getD (0) (Func.mk ByteArray.empty false [] 0 [])).result (h0.getD (0) (Func.mk ByteArray.empty false [] 0 [])).blocks)) 0 h0)
 else none
 else none:=by kernel_rfl
theorem e128_j2 (J f v3 v4 h0):run tb C128 U128 J (R128 f) 4096 k128_j2 (s128_j2 f v3 v4 h0)=
 if 0≤IntKind.i64.wrap ((↑v4.length:Int)-1) then
 if IntKind.i64.wrap ((↑v4.length:Int)-1)<(↑v4.length:Int) then
 J k128_l4 (s128_l4 f v3 0 h0 ([Ins.mk (v4.getD (IntKind.i64.wrap ((↑v4.length:Int)-1)).toNat (Ins.mk 0 0 0 0 0 [] [])).op (v4.getD (IntKind.i64.wrap ((↑v4.length:Int)-1)).toNat (Ins.mk 0 0 0 0 0 [] [])).type_ (v4.getD (IntKind.i64.wrap ((↑v4.length:Int)-1)).toNat (Ins.mk 0 0 0 0 0 [] [])).to_ (v4.getD (IntKind.i64.wrap ((↑v4.length:Int)-1)).toNat (Ins.mk 0 0 0 0 0 [] [])).sym_ (v4.getD (IntKind.i64.wrap ((↑v4.length:Int)-1)).toNat (Ins.mk 0 0 0 0 0 [] [])).num (v4.getD (IntKind.i64.wrap ((↑v4.length:Int)-1)).toNat (Ins.mk 0 0 0 0 0 [] [])).args (v4.getD (IntKind.i64.wrap ((↑v4.length:Int)-1)).toNat (Ins.mk 0 0 0 0 0 [] [])).into]))
 else none
 else none:=by kernel_rfl
theorem e128_l6 (J f v8 v9 v10 h0):run tb C128 U128 J (R128 f) 4096 k128_l6 (s128_l6 f v8 v9 v10 h0)=
 if decide (v10<(↑(h0.getD (0) (Func.mk ByteArray.empty false [] 0 [])).blocks.length:Int))=true then
 if 0≤v10 then
 if v10<(↑v8.length:Int) then
 if (!v8.getD v10.toNat false)=true then
 some (.v (.bool false),[.dead])
 else
 if 0≤v10 then
 if v10<(↑(h0.getD (0) (Func.mk ByteArray.empty false [] 0 [])).blocks.length:Int) then
 J k128_l8 (s128_l8 f v8 v9 v10 (((h0.getD (0) (Func.mk ByteArray.empty false [] 0 [])).blocks.getD v10.toNat (Block.mk [])).ins) 0 h0)
 else none
 else none
 else none
 else none
 else
 J k128_j6 (s128_j6 f):=by kernel_rfl
theorem e128_l4 (J f v3 v7 h0 h1):run tb C128 U128 J (R128 f) 4096 k128_l4 (s128_l4 f v3 v7 h0 h1)=
 if decide (v7<(↑(h1.getD (0) (Ins.mk 0 0 0 0 0 [] [])).into.length:Int))=true then
 if 0≤v7 then
 if v7<(↑(h1.getD (0) (Ins.mk 0 0 0 0 0 [] [])).into.length:Int) then
 if decide ((h1.getD (0) (Ins.mk 0 0 0 0 0 [] [])).into.getD v7.toNat 0<1)=false then
 if 0≤v7 then
 if v7<(↑(h1.getD (0) (Ins.mk 0 0 0 0 0 [] [])).into.length:Int) then
 if decide ((h1.getD (0) (Ins.mk 0 0 0 0 0 [] [])).into.getD v7.toNat 0≥(↑(h0.getD (0) (Func.mk ByteArray.empty false [] 0 [])).blocks.length:Int))=true then
 some (.v (.bool false),[.dead])
 else
 J k128_l4 (s128_l4 f v3 (IntKind.i64.wrap (v7+1)) h0 h1)
 else none
 else none
 else
 some (.v (.bool false),[.dead])
 else none
 else none
 else
 J k128_j4 (s128_j4 f v3 h0 h1):=by kernel_rfl
theorem e128_l8 (J f v8 v9 v10 v11 v12 h0):run tb C128 U128 J (R128 f) 4096 k128_l8 (s128_l8 f v8 v9 v10 v11 v12 h0)=
 if decide (v12<(↑v11.length:Int))=true then
 if 0≤v12 then
 if v12<(↑v11.length:Int) then
 if ((v11.getD v12.toNat (Ins.mk 0 0 0 0 0 [] [])).op == 26)=true then
 if (v10 == 0)=false then
 if 0≤v12 then
 if v12<(↑v11.length:Int) then
 if 0≤v10 then
 if v10<(↑v9.length:Int) then
 if (v11.getD v12.toNat (Ins.mk 0 0 0 0 0 [] [])).into.length≤4611686018427387904 then
 if (!same3 (v11.getD v12.toNat (Ins.mk 0 0 0 0 0 [] [])).into (v9.getD v10.toNat []))=true then
 some (.v (.bool false),[.dead])
 else
 J k128_l8 (s128_l8 f v8 v9 v10 v11 (IntKind.i64.wrap (v12+1)) h0)
 else none
 else none
 else none
 else none
 else none
 else
 some (.v (.bool false),[.dead])
 else
 J k128_l8 (s128_l8 f v8 v9 v10 v11 (IntKind.i64.wrap (v12+1)) h0)
 else none
 else none
 else
 J k128_j8 (s128_j8 f v8 v9 v10 h0):=by kernel_rfl
theorem e128_j6 (J f):run tb C128 U128 J (R128 f) 4096 k128_j6 (s128_j6 f)=
 some (.v (.bool true),[.dead]):=by kernel_rfl
theorem e128_j4 (J f v3 h0 h1):run tb C128 U128 J (R128 f) 4096 k128_j4 (s128_j4 f v3 h0 h1)=
 if ((h1.getD (0) (Ins.mk 0 0 0 0 0 [] [])).op == 28)=true then
 if 0<(↑(h1.getD (0) (Ins.mk 0 0 0 0 0 [] [])).into.length:Int) then
 if 1<(↑(h1.getD (0) (Ins.mk 0 0 0 0 0 [] [])).into.length:Int) then
 if ((h1.getD (0) (Ins.mk 0 0 0 0 0 [] [])).into.getD (Int.toNat 0) 0 == (h1.getD (0) (Ins.mk 0 0 0 0 0 [] [])).into.getD (Int.toNat 1) 0)=true then
 some (.v (.bool false),[.dead])
 else
 J k128_j1 (s128_j1 f v3 h0)
 else none
 else none
 else
 J k128_j1 (s128_j1 f v3 h0):=by kernel_rfl
theorem e128_j8 (J f v8 v9 v10 h0):run tb C128 U128 J (R128 f) 4096 k128_j8 (s128_j8 f v8 v9 v10 h0)=
 J k128_j7 (s128_j7 f v8 v9 v10 h0):=by kernel_rfl
theorem e128_j1 (J f v3 h0):run tb C128 U128 J (R128 f) 4096 k128_j1 (s128_j1 f v3 h0)=
 J k128_l0 (s128_l0 f (IntKind.i64.wrap (v3+1)) h0):=by kernel_rfl
theorem e128_j7 (J f v8 v9 v10 h0):run tb C128 U128 J (R128 f) 4096 k128_j7 (s128_j7 f v8 v9 v10 h0)=
 J k128_l6 (s128_l6 f v8 v9 (IntKind.i64.wrap (v10+1)) h0):=by kernel_rfl

theorem in128:Entered 128:=⟨Try.f128,b128,by kernel_rfl,by kernel_rfl,by kernel_rfl⟩
theorem fn128 (f:Ev.Func) {res:AV Ty} {outs:List (AV Ty)} (h:Ends C128 U128 (R128 f) [.code b128] ⟨slotsA (a128 f) 0 0,heapA (a128 f)⟩ (some (res,outs))):CallOk tb Try.prog 128 (a128 f) res outs:=by
 obtain ⟨n0,hn⟩:=h
 exact fn_ok (C:=C128) (U:=U128) (n:=0+n0) (q:= .keep) tbOk good (fun f mu S h=>by
  unfold C128 at h
  simp only at h
  split at h
  ·cases h;exact ⟨in150,S150_ok⟩
  ·cases h;exact ⟨in151,S151_ok⟩
  ·cases h;exact ⟨in152,S152_ok⟩
  ·cases h;exact ⟨in29,S29_ok⟩
  ·cases h) mixed (fn:=Try.f128) (body:=b128) (by kernel_rfl) (by kernel_rfl) rfl rfl (by show 1≤163;omega) (hn 0)
section
variable {f:Ev.Func}
theorem Flows.i {b k:Nat} {l:List Ev.Ins} (hl:l.length≤1000) (hk:k<l.length):Way C128 U128 (R128 f) (rD false) k128_l2 (s128_l2 f b l k [f]) k128_l2 (s128_l2 f b l (k+1:Nat) [f]) True:=by
 have w1:IntKind.i64.wrap ((k:Int)-1)=(k:Int)-1:=wrap_up (by omega)
 refine Way.of (fun J=>e128_l2 J f b l k [f]) ?_
 have w:IntKind.i64.wrap ((k:Int)+1)=((k+1:Nat):Int):=wrap_nat (by omega) (by omega)
 simp only [w1,List.getD_cons_zero,Int.toNat_natCast,w]
 repeat' first|refine tree_qt (fun _=> ?_) (fun _=> ?_)|refine tree_qf (fun _=> ?_) (fun _=> ?_)|refine tree_nt (fun _=> ?_) (fun _=> ?_)|refine tree_nf (fun _=> ?_) (fun _=> ?_)|refine tree_et (fun _=> ?_) (fun _=> ?_)|refine tree_ef (fun _=> ?_) (fun _=> ?_)|refine tree_dt (fun _=> ?_) (fun _=> ?_)|refine tree_df (fun _=> ?_) (fun _=> ?_)|refine tree_bt (fun _=> ?_) (fun _=> ?_)|refine tree_bf (fun _=> ?_) (fun _=> ?_)|refine tree_ite (fun _=> ?_) (fun _=> ?_)
 all_goals first|exact WayT.no (fun J=>rfl)|exact WayT.yes (fun J=>rfl) (trivial)|(exfalso;omega)
theorem Flows.n {b k:Nat} {x:Ev.Ins} (hl:x.into.length≤1000) (hk:k<x.into.length):Way C128 U128 (R128 f) (rD false) k128_l4 (s128_l4 f b k [f] [x]) k128_l4 (s128_l4 f b (k+1:Nat) [f] [x]) True:=by
 refine Way.of (fun J=>e128_l4 J f b k [f] [x]) ?_
 have w:IntKind.i64.wrap ((k:Int)+1)=((k+1:Nat):Int):=wrap_nat (by omega) (by omega)
 simp only [List.getD_cons_zero,Int.toNat_natCast,w]
 repeat' first|refine tree_qt (fun _=> ?_) (fun _=> ?_)|refine tree_qf (fun _=> ?_) (fun _=> ?_)|refine tree_nt (fun _=> ?_) (fun _=> ?_)|refine tree_nf (fun _=> ?_) (fun _=> ?_)|refine tree_et (fun _=> ?_) (fun _=> ?_)|refine tree_ef (fun _=> ?_) (fun _=> ?_)|refine tree_dt (fun _=> ?_) (fun _=> ?_)|refine tree_df (fun _=> ?_) (fun _=> ?_)|refine tree_bt (fun _=> ?_) (fun _=> ?_)|refine tree_bf (fun _=> ?_) (fun _=> ?_)|refine tree_ite (fun _=> ?_) (fun _=> ?_)
 all_goals first|exact WayT.no (fun J=>rfl)|exact WayT.yes (fun J=>rfl) (trivial)|(exfalso;omega)
theorem Flows.b (h:flowPre f) {b:Nat} (hb:b<f.blocks.length):Way C128 U128 (R128 f) (rD false) k128_l0 (s128_l0 f b [f]) k128_l0 (s128_l0 f (b+1:Nat) [f]) (0<(f.blocks.getD b (Block.mk [])).ins.length):=by
 obtain ⟨hf,hq⟩:=h
 have h0:=hf.2.1
 have h1:=hf.b hb
 refine (Way.trans (k':=k128_l2) (s':=s128_l2 f b (f.blocks.getD b (Block.mk [])).ins (0:Nat) [f]) (Q:=0<(f.blocks.getD b (Block.mk [])).ins.length) (Q':=True) ?_ fun hn=> ?_).mono fun q=>q.1
 ·refine Way.of (fun J=>e128_l0 J f b [f]) ?_
  simp only [List.getD_cons_zero,Int.toNat_natCast]
  repeat' first|refine tree_qt (fun _=> ?_) (fun _=> ?_)|refine tree_qf (fun _=> ?_) (fun _=> ?_)|refine tree_nt (fun _=> ?_) (fun _=> ?_)|refine tree_nf (fun _=> ?_) (fun _=> ?_)|refine tree_et (fun _=> ?_) (fun _=> ?_)|refine tree_ef (fun _=> ?_) (fun _=> ?_)|refine tree_dt (fun _=> ?_) (fun _=> ?_)|refine tree_df (fun _=> ?_) (fun _=> ?_)|refine tree_bt (fun _=> ?_) (fun _=> ?_)|refine tree_bf (fun _=> ?_) (fun _=> ?_)|refine tree_ite (fun _=> ?_) (fun _=> ?_)
  all_goals first|exact WayT.no (fun J=>rfl)|exact WayT.yes (fun J=>rfl) (by omega)|(exfalso;omega)
 have hx:=hq b hb _ (show (f.blocks.getD b (Block.mk [])).ins.length-1<_ by omega)
 have hx2:=((hf.2.2 _ (getD_mem (d:=(Block.mk [])) hb)).2 _ (getD_mem (d:=(Ins.mk 0 0 0 0 0 [] [])) (show (f.blocks.getD b (Block.mk [])).ins.length-1<_ by omega))).2
 have wl:IntKind.i64.wrap (((f.blocks.getD b (Block.mk [])).ins.length:Int)-1)=(((f.blocks.getD b (Block.mk [])).ins.length-1:Nat):Int):=wrap_nat (by omega) (by omega)
 have ww:IntKind.i64.wrap ((b:Int)+1)=((b+1:Nat):Int):=wrap_nat (by omega) (by omega)
 refine (Way.trans (k':=k128_l4) (s':=s128_l4 f b (0:Nat) [f] [(f.blocks.getD b (Block.mk [])).ins.getD ((f.blocks.getD b (Block.mk [])).ins.length-1) (Ins.mk 0 0 0 0 0 [] [])]) (((Way.upto (fun k=>s128_l2 f b (f.blocks.getD b (Block.mk [])).ins k [f]) _ (fun _=>True) (fun k hk _=>Flows.i h1 hk) _ (Nat.le_refl _)).mono fun _=>trivial).then fun _=> ?_) (Q:=True) (Q':=True) fun _=> ?_).mono fun _=>trivial
 ·refine Goes.trans (k':=k128_j2) (s':=s128_j2 f b (f.blocks.getD b (Block.mk [])).ins [f]) (.step fun J=> ?_) (.step fun J=> ?_)
  ·rw [e128_l2]
   simp (disch:=first|omega|assumption|(rw [dT];omega)|(rw [dF];omega)) only [↓iP,↓iN,iT,iF,wrap_up,tN,Nat.zero_add]
  ·rw [e128_j2,wl]
   simp only [Int.toNat_natCast]
   simp (disch:=first|omega|assumption|(rw [dT];omega)|(rw [dF];omega)) only [↓iP,↓iN,iT,iF,wrap_up,tN,Nat.zero_add]
   rfl
 generalize (f.blocks.getD b (Block.mk [])).ins.getD ((f.blocks.getD b (Block.mk [])).ins.length-1) (Ins.mk 0 0 0 0 0 [] [])=x at*
 refine (Way.trans (k':=k128_j4) (s':=s128_j4 f b [f] [x]) (((Way.upto (fun k=>s128_l4 f b k [f] [x]) _ (fun _=>True) (fun k hk _=>Flows.n hx2 hk) _ (Nat.le_refl _)).mono fun _=>trivial).then fun _=> ?_) (Q:=True) (Q':=True) fun _=> ?_).mono fun _=>trivial
 ·refine .step fun J=> ?_
  rw [e128_l4]
  simp only [List.getD_cons_zero]
  simp (disch:=first|omega|assumption|(rw [dT];omega)|(rw [dF];omega)) only [↓iP,↓iN,iT,iF,wrap_up,tN,Nat.zero_add]
 have hi:x.op=28→x.into.length=2:=fun e=>by
  have:=hx.1.2.2.2.2.2.1
  rw [e] at this
  have:=this (by decide)
  have e2:markI 28=2:=rfl
  omega
 refine (Way.of (k':=k128_j1) (s':=s128_j1 f b [f]) (fun J=>e128_j4 J f b [f] [x]) ?_).then fun _=> .step fun J=>by rw [e128_j1,ww]
 simp only [List.getD_cons_zero]
 repeat' first|refine tree_qt (fun _=> ?_) (fun _=> ?_)|refine tree_qf (fun _=> ?_) (fun _=> ?_)|refine tree_nt (fun _=> ?_) (fun _=> ?_)|refine tree_nf (fun _=> ?_) (fun _=> ?_)|refine tree_et (fun _=> ?_) (fun _=> ?_)|refine tree_ef (fun _=> ?_) (fun _=> ?_)|refine tree_dt (fun _=> ?_) (fun _=> ?_)|refine tree_df (fun _=> ?_) (fun _=> ?_)|refine tree_bt (fun _=> ?_) (fun _=> ?_)|refine tree_bf (fun _=> ?_) (fun _=> ?_)|refine tree_ite (fun _=> ?_) (fun _=> ?_)
 all_goals first|exact WayT.no (fun J=>rfl)|exact WayT.yes (fun J=>rfl) trivial|(exfalso;omega)
theorem Flows.p {b k:Nat} {l:List Ev.Ins} (hl:l.length≤1000) (hk:k<l.length) (hb:b<(prevL f).length) (hi:(l.getD k (Ins.mk 0 0 0 0 0 [] [])).into.length≤1000):Way C128 U128 (R128 f) (rD false) k128_l8 (s128_l8 f (reachL f) (prevL f) b l k [f]) k128_l8 (s128_l8 f (reachL f) (prevL f) b l (k+1:Nat) [f]) ((l.getD k (Ins.mk 0 0 0 0 0 [] [])).op=26→b≠0∧(l.getD k (Ins.mk 0 0 0 0 0 [] [])).into=(prevL f).getD b []):=by
 refine Way.of (fun J=>e128_l8 J f (reachL f) (prevL f) b l k [f]) ?_
 have w:IntKind.i64.wrap ((k:Int)+1)=((k+1:Nat):Int):=wrap_nat (by omega) (by omega)
 simp only [List.getD_cons_zero,Int.toNat_natCast,w]
 repeat' first|refine tree_qt (fun _=> ?_) (fun _=> ?_)|refine tree_qf (fun _=> ?_) (fun _=> ?_)|refine tree_nt (fun _=> ?_) (fun _=> ?_)|refine tree_nf (fun _=> ?_) (fun _=> ?_)|refine tree_et (fun _=> ?_) (fun _=> ?_)|refine tree_ef (fun _=> ?_) (fun _=> ?_)|refine tree_dt (fun _=> ?_) (fun _=> ?_)|refine tree_df (fun _=> ?_) (fun _=> ?_)|refine tree_bt (fun _=> ?_) (fun _=> ?_)|refine tree_bf (fun _=> ?_) (fun _=> ?_)|refine tree_ite (fun _=> ?_) (fun _=> ?_)
 all_goals first|exact WayT.no (fun J=>rfl)|exact WayT.yes (fun J=>rfl) (fun _=>⟨by omega,same3_eq ‹_›⟩)|(exfalso;omega)|exact WayT.yes (fun J=>rfl) (fun e=>absurd e (by omega))
theorem Flows.r (h:flowPre f) {b:Nat} (hb:b<f.blocks.length):Way C128 U128 (R128 f) (rD false) k128_l6 (s128_l6 f (reachL f) (prevL f) b [f]) k128_l6 (s128_l6 f (reachL f) (prevL f) (b+1:Nat) [f]) (∀k,k<(f.blocks.getD b (Block.mk [])).ins.length→((f.blocks.getD b (Block.mk [])).ins.getD k (Ins.mk 0 0 0 0 0 [] [])).op=26→b≠0∧((f.blocks.getD b (Block.mk [])).ins.getD k (Ins.mk 0 0 0 0 0 [] [])).into=(prevL f).getD b []):=by
 obtain ⟨hf,hq⟩:=h
 have h0:=hf.2.1
 have h1:=hf.b hb
 have hr:(reachL f).length=f.blocks.length:=(fromL_ok hf 0 (-1)).1
 have hp:(prevL f).length=f.blocks.length:=(prevL_in hf).1
 have ww:IntKind.i64.wrap ((b:Int)+1)=((b+1:Nat):Int):=wrap_nat (by omega) (by omega)
 refine (Way.trans (k':=k128_l8) (s':=s128_l8 f (reachL f) (prevL f) b (f.blocks.getD b (Block.mk [])).ins (0:Nat) [f]) (Q:=True) ?_ fun _=> ?_).mono fun q=>q.2
 ·refine Way.of (fun J=>e128_l6 J f (reachL f) (prevL f) b [f]) ?_
  simp only [List.getD_cons_zero,Int.toNat_natCast]
  repeat' first|refine tree_qt (fun _=> ?_) (fun _=> ?_)|refine tree_qf (fun _=> ?_) (fun _=> ?_)|refine tree_nt (fun _=> ?_) (fun _=> ?_)|refine tree_nf (fun _=> ?_) (fun _=> ?_)|refine tree_et (fun _=> ?_) (fun _=> ?_)|refine tree_ef (fun _=> ?_) (fun _=> ?_)|refine tree_dt (fun _=> ?_) (fun _=> ?_)|refine tree_df (fun _=> ?_) (fun _=> ?_)|refine tree_bt (fun _=> ?_) (fun _=> ?_)|refine tree_bf (fun _=> ?_) (fun _=> ?_)|refine tree_ite (fun _=> ?_) (fun _=> ?_)
  all_goals first|exact WayT.no (fun J=>rfl)|exact WayT.yes (fun J=>rfl) (trivial)|(exfalso;omega)
 refine (Way.upto (fun k=>s128_l8 f (reachL f) (prevL f) b (f.blocks.getD b (Block.mk [])).ins k [f]) _ _ (fun k hk _=>Flows.p h1 hk (by omega) ((hf.2.2 _ (getD_mem (d:=(Block.mk [])) hb)).2 _ (getD_mem (d:=(Ins.mk 0 0 0 0 0 [] [])) hk)).2) _ (Nat.le_refl _)).then fun _=> ?_
 refine Goes.trans (k':=k128_j8) (s':=s128_j8 f (reachL f) (prevL f) b [f]) (.step fun J=> ?_) (.trans (.step fun J=>e128_j8 ..) (.step fun J=> ?_))
 ·rw [e128_l8]
  simp (disch:=first|omega|assumption|(rw [dT];omega)|(rw [dF];omega)) only [↓iP,↓iN,iT,iF,wrap_up,tN,Nat.zero_add]
 ·rw [e128_j7,ww]
theorem flows_ok (h:flowPre f): ∃b,Tells 128 (a128 f) [.dead] (FlowQ f) b:=by
 have hf:=h.1
 have e0:(Func.mk f.name f.out f.params f.result f.blocks)=f:=rfl
 have:Says C128 U128 (R128 f) rD [.code b128] ⟨slotsA (a128 f) 0 0,heapA (a128 f)⟩ (FlowQ f):=by
  refine Goes.says (k':=k128_l0) (s':=s128_l0 f (0:Nat) [f]) (.step fun J=>e128 ..) ?_
  refine Way.says (Way.upto (fun b=>s128_l0 f b [f]) _ _ (fun b hb _=>Flows.b h hb) _ (Nat.le_refl _)) fun _=> ?_
  refine Goes.says (k':=k128_l6) (s':=s128_l6 f (reachL f) (prevL f) (0:Nat) [f]) (.trans (k':=k128_j0) (s':=s128_j0 f [f]) (.step fun J=> ?_) (.step fun J=> ?_)) ?_
  ·rw [e128_l0]
   simp only [List.getD_cons_zero]
   simp (disch:=first|omega|assumption|(rw [dT];omega)|(rw [dF];omega)) only [↓iP,↓iN,iT,iF,wrap_up,tN,Nat.zero_add]
  ·rw [e128_j0]
   simp only [List.getD_cons_zero]
   rw [e0]
   simp (disch:=first|omega|assumption|(rw [dT];omega)|(rw [dF];omega)) only [↓iP,↓iN,iT,iF,wrap_up,tN,Nat.zero_add,hf]
   rfl
  refine (Way.says (Q':=True) (Way.upto (fun b=>s128_l6 f (reachL f) (prevL f) b [f]) _ _ (fun b hb _=>Flows.r h hb) _ (Nat.le_refl _)) fun _=> ?_).mono fun q=>q.1
  refine Goes.says (k':=k128_j6) (s':=s128_j6 f) (.step fun J=> ?_) (.yes (.step fun J=>e128_j6 ..) trivial)
  rw [e128_l6]
  simp only [List.getD_cons_zero]
  simp (disch:=first|omega|assumption|(rw [dT];omega)|(rw [dF];omega)) only [↓iP,↓iN,iT,iF,wrap_up,tN,Nat.zero_add]
 obtain ⟨b,h1,h2⟩:=this
 exact ⟨b,fn128 f h1,h2⟩
end
noncomputable def flowsB (f:Ev.Func):Bool:=told 128 (a128 f) [.dead] (FlowQ f)
theorem flowsB_ok (f:Ev.Func) (h:flowPre f):CallOk tb Try.prog 128 (a128 f) (.v (.bool (flowsB f))) [.dead]:=(told_ok (flows_ok h)).1
noncomputable def S128:List (AV Ty)→T (AV Ty×List (AV Ty))
 |[.agg x]=>match cod33.dec false x with
  |some f=> .ite (flowPre f) (Classical.propDecidable _) (.ret (.v (.bool (flowsB f)),[.dead])) .fail
  |none=> .fail
 |_=> .fail
theorem S128_ok (l:List (AV Ty)) (r:AV Ty) (outs:List (AV Ty)) (h:(S128 l).val=some (r,outs)):CallOk tb Try.prog 128 l r outs:=by
 unfold S128 at h
 split at h
 ·rename_i x
  split at h
  ·rename_i f e1
   rcases ite_val h with ⟨e,h⟩|⟨_,h⟩
   ·cases h
    have h1:=cod33_ok.dec false x f e1
    subst h1
    exact flowsB_ok f e
   ·cases h
  ·cases h
 ·cases h
end Go.Proofs.Ytggibjbcbicpjaa.Ev
namespace Go.Proofs.Ytggibjbcbicpjaa.Ev
open Go
set_option linter.unusedVariables false
set_option linter.unusedSimpArgs false
def usesPre (f:Ev.Func):Prop:=wherePre f∧FnQ f∧FlowQ f
def ToQ (f:Ev.Func):Prop:= ∀b,b<f.blocks.length→ ∀k,k<(f.blocks.getD b (Block.mk [])).ins.length→((f.blocks.getD b (Block.mk [])).ins.getD k (Ins.mk 0 0 0 0 0 [] [])).type_≠0→((f.blocks.getD b (Block.mk [])).ins.getD k (Ins.mk 0 0 0 0 0 [] [])).to_=loc f b (k+1)
def ArgQ (f:Ev.Func):Prop:= ∀b,b<f.blocks.length→ ∀k,k<(f.blocks.getD b (Block.mk [])).ins.length→ ∀j,j<((f.blocks.getD b (Block.mk [])).ins.getD k (Ins.mk 0 0 0 0 0 [] [])).args.length→1≤((f.blocks.getD b (Block.mk [])).ins.getD k (Ins.mk 0 0 0 0 0 [] [])).args.getD j 0∧((f.blocks.getD b (Block.mk [])).ins.getD k (Ins.mk 0 0 0 0 0 [] [])).args.getD j 0<(typesOf f).length
theorem loc_end {f:Ev.Func} (hf:okF f):loc f f.blocks.length 0+1=(typesOf f).length:=by
 rw [loc_zero,List.take_length,(types_len hf).1]
 omega
noncomputable def b129:Code:=bodyOf Try.f129
noncomputable def C129:Cfg Ty:=⟨fun
 |153=>some ([],S153)
 |154=>some ([],S154)
 |_=>none,fun _=>false,154,0⟩
def U129:Cuts:=⟨fun
 |0=>some [(1,none),(3,none)]
 |1=>some [(1,none),(3,none),(4,none)]
 |2=>some [(1,none),(3,none),(4,none)]
 |4=>some []
 |5=>some [(1,none),(3,none),(7,none),(8,none),(9,none)]
 |6=>some [(1,none),(3,none),(7,none),(8,none),(9,none)]
 |7=>some [(1,none),(3,none),(7,none),(8,none),(9,none),(10,none)]
 |8=>some [(1,none),(3,none),(7,none),(8,none),(9,none),(10,none)]
 |9=>some [(1,none),(3,none),(7,none),(8,none),(9,none),(10,none),(11,none),(12,none)]
 |_=>none,fun
 |0=>some [(1,none),(3,none),(4,none)]
 |2=>some [(1,none),(3,none),(4,none),(5,none)]
 |4=>some [(1,none),(3,none),(7,none),(8,none),(9,none)]
 |6=>some [(1,none),(3,none),(7,none),(8,none),(9,none),(10,none)]
 |8=>some [(1,none),(3,none),(7,none),(8,none),(9,none),(10,none),(11,none),(12,none)]
 |_=>none,fun _=>none⟩
noncomputable def k129_j0:List Item:=[.code (sndC (sndC (sndC b129)))]
noncomputable def k129_l0:List Item:=[.code (inC (inC (sndC (fstC (sndC (sndC b129)))))), .inLoop (inC (inC (sndC (fstC (sndC (sndC b129)))))), .inBlock 0, .code (sndC (sndC (sndC b129)))]
noncomputable def k129_j1:List Item:=[.code (sndC (sndC (inC (inC (sndC (fstC (sndC (sndC b129)))))))), .inLoop (inC (inC (sndC (fstC (sndC (sndC b129)))))), .inBlock 0, .code (sndC (sndC (sndC b129)))]
noncomputable def k129_j2:List Item:=[.inBlock 1, .code (sndC (sndC (inC (inC (sndC (fstC (sndC (sndC b129)))))))), .inLoop (inC (inC (sndC (fstC (sndC (sndC b129)))))), .inBlock 0, .code (sndC (sndC (sndC b129)))]
noncomputable def k129_l2:List Item:=[.code (inC (inC (sndC (inC (fstC (sndC (inC (inC (sndC (fstC (sndC (sndC b129)))))))))))), .inLoop (inC (inC (sndC (inC (fstC (sndC (inC (inC (sndC (fstC (sndC (sndC b129)))))))))))), .inBlock 2, .inBlock 1, .code (sndC (sndC (inC (inC (sndC (fstC (sndC (sndC b129)))))))), .inLoop (inC (inC (sndC (fstC (sndC (sndC b129)))))), .inBlock 0, .code (sndC (sndC (sndC b129)))]
noncomputable def k129_j4:List Item:=[.code (sndC (sndC (sndC (sndC (sndC (sndC b129))))))]
noncomputable def k129_l4:List Item:=[.code (inC (inC (sndC (fstC (sndC (sndC (sndC (sndC (sndC b129))))))))), .inLoop (inC (inC (sndC (fstC (sndC (sndC (sndC (sndC (sndC b129))))))))), .inBlock 4, .code (sndC (sndC (sndC (sndC (sndC (sndC b129))))))]
noncomputable def k129_j5:List Item:=[.code (sndC (sndC (inC (inC (sndC (fstC (sndC (sndC (sndC (sndC (sndC b129))))))))))), .inLoop (inC (inC (sndC (fstC (sndC (sndC (sndC (sndC (sndC b129))))))))), .inBlock 4, .code (sndC (sndC (sndC (sndC (sndC (sndC b129))))))]
noncomputable def k129_j6:List Item:=[.inBlock 5, .code (sndC (sndC (inC (inC (sndC (fstC (sndC (sndC (sndC (sndC (sndC b129))))))))))), .inLoop (inC (inC (sndC (fstC (sndC (sndC (sndC (sndC (sndC b129))))))))), .inBlock 4, .code (sndC (sndC (sndC (sndC (sndC (sndC b129))))))]
noncomputable def k129_l6:List Item:=[.code (inC (inC (sndC (inC (fstC (sndC (inC (inC (sndC (fstC (sndC (sndC (sndC (sndC (sndC b129))))))))))))))), .inLoop (inC (inC (sndC (inC (fstC (sndC (inC (inC (sndC (fstC (sndC (sndC (sndC (sndC (sndC b129))))))))))))))), .inBlock 6, .inBlock 5, .code (sndC (sndC (inC (inC (sndC (fstC (sndC (sndC (sndC (sndC (sndC b129))))))))))), .inLoop (inC (inC (sndC (fstC (sndC (sndC (sndC (sndC (sndC b129))))))))), .inBlock 4, .code (sndC (sndC (sndC (sndC (sndC (sndC b129))))))]
noncomputable def k129_j7:List Item:=[.code (sndC (sndC (inC (inC (sndC (inC (fstC (sndC (inC (inC (sndC (fstC (sndC (sndC (sndC (sndC (sndC b129))))))))))))))))), .inLoop (inC (inC (sndC (inC (fstC (sndC (inC (inC (sndC (fstC (sndC (sndC (sndC (sndC (sndC b129))))))))))))))), .inBlock 6, .inBlock 5, .code (sndC (sndC (inC (inC (sndC (fstC (sndC (sndC (sndC (sndC (sndC b129))))))))))), .inLoop (inC (inC (sndC (fstC (sndC (sndC (sndC (sndC (sndC b129))))))))), .inBlock 4, .code (sndC (sndC (sndC (sndC (sndC (sndC b129))))))]
noncomputable def k129_j8:List Item:=[.inBlock 7, .code (sndC (sndC (inC (inC (sndC (inC (fstC (sndC (inC (inC (sndC (fstC (sndC (sndC (sndC (sndC (sndC b129))))))))))))))))), .inLoop (inC (inC (sndC (inC (fstC (sndC (inC (inC (sndC (fstC (sndC (sndC (sndC (sndC (sndC b129))))))))))))))), .inBlock 6, .inBlock 5, .code (sndC (sndC (inC (inC (sndC (fstC (sndC (sndC (sndC (sndC (sndC b129))))))))))), .inLoop (inC (inC (sndC (fstC (sndC (sndC (sndC (sndC (sndC b129))))))))), .inBlock 4, .code (sndC (sndC (sndC (sndC (sndC (sndC b129))))))]
noncomputable def k129_l8:List Item:=[.code (inC (inC (sndC (sndC (inC (fstC (sndC (inC (inC (sndC (inC (fstC (sndC (inC (inC (sndC (fstC (sndC (sndC (sndC (sndC (sndC b129)))))))))))))))))))))), .inLoop (inC (inC (sndC (sndC (inC (fstC (sndC (inC (inC (sndC (inC (fstC (sndC (inC (inC (sndC (fstC (sndC (sndC (sndC (sndC (sndC b129)))))))))))))))))))))), .inBlock 8, .inBlock 7, .code (sndC (sndC (inC (inC (sndC (inC (fstC (sndC (inC (inC (sndC (fstC (sndC (sndC (sndC (sndC (sndC b129))))))))))))))))), .inLoop (inC (inC (sndC (inC (fstC (sndC (inC (inC (sndC (fstC (sndC (sndC (sndC (sndC (sndC b129))))))))))))))), .inBlock 6, .inBlock 5, .code (sndC (sndC (inC (inC (sndC (fstC (sndC (sndC (sndC (sndC (sndC b129))))))))))), .inLoop (inC (inC (sndC (fstC (sndC (sndC (sndC (sndC (sndC b129))))))))), .inBlock 4, .code (sndC (sndC (sndC (sndC (sndC (sndC b129))))))]
noncomputable def k129_j9:List Item:=[.code (sndC (sndC (inC (inC (sndC (sndC (inC (fstC (sndC (inC (inC (sndC (inC (fstC (sndC (inC (inC (sndC (fstC (sndC (sndC (sndC (sndC (sndC b129)))))))))))))))))))))))), .inLoop (inC (inC (sndC (sndC (inC (fstC (sndC (inC (inC (sndC (inC (fstC (sndC (inC (inC (sndC (fstC (sndC (sndC (sndC (sndC (sndC b129)))))))))))))))))))))), .inBlock 8, .inBlock 7, .code (sndC (sndC (inC (inC (sndC (inC (fstC (sndC (inC (inC (sndC (fstC (sndC (sndC (sndC (sndC (sndC b129))))))))))))))))), .inLoop (inC (inC (sndC (inC (fstC (sndC (inC (inC (sndC (fstC (sndC (sndC (sndC (sndC (sndC b129))))))))))))))), .inBlock 6, .inBlock 5, .code (sndC (sndC (inC (inC (sndC (fstC (sndC (sndC (sndC (sndC (sndC b129))))))))))), .inLoop (inC (inC (sndC (fstC (sndC (sndC (sndC (sndC (sndC b129))))))))), .inBlock 4, .code (sndC (sndC (sndC (sndC (sndC (sndC b129))))))]
def a129 (f:Func):List (AV Ty):=[.agg [.v (.string f.name), .v (.bool f.out), .sl false (3:Nat) f.params, .v (.int .i64 f.result), .sl false (44:Nat) f.blocks]]
noncomputable def R129 (f:Func):St Ty→EvR:=resT tb C129 Try.f129.results.toList .keep (a129 f)
def s129_l0 (f:Func) (v3:Int) (v4:Int) (h0:List Func):St Ty:=St.mk [(1, .ptr (0) [] (0) (0)),(3, .v (.int .i64 v3)),(4, .v (.int .i64 v4))] [some (Root.mk (33) false h0)]
def s129_l2 (f:Func) (v3:Int) (v4:Int) (v5:Int) (h0:List Func):St Ty:=St.mk [(1, .ptr (0) [] (0) (0)),(3, .v (.int .i64 v3)),(4, .v (.int .i64 v4)),(5, .v (.int .i64 v5))] [some (Root.mk (33) false h0)]
def s129_j0 (f:Func) (v3:Int) (h0:List Func):St Ty:=St.mk [(1, .ptr (0) [] (0) (0)),(3, .v (.int .i64 v3))] [some (Root.mk (33) false h0)]
def s129_j2 (f:Func) (v3:Int) (v4:Int) (h0:List Func):St Ty:=St.mk [(1, .ptr (0) [] (0) (0)),(3, .v (.int .i64 v3)),(4, .v (.int .i64 v4))] [some (Root.mk (33) false h0)]
def s129_l4 (f:Func) (v3:Int) (v7:List S162) (v8:List (List Bool)) (v9:Int) (h0:List Func):St Ty:=St.mk [(1, .ptr (0) [] (0) (0)),(3, .v (.int .i64 v3)),(7, .sl false (162) v7),(8, .sl false (71) v8),(9, .v (.int .i64 v9))] [some (Root.mk (33) false h0)]
def s129_j1 (f:Func) (v3:Int) (v4:Int) (h0:List Func):St Ty:=St.mk [(1, .ptr (0) [] (0) (0)),(3, .v (.int .i64 v3)),(4, .v (.int .i64 v4))] [some (Root.mk (33) false h0)]
def s129_l6 (f:Func) (v3:Int) (v7:List S162) (v8:List (List Bool)) (v9:Int) (v10:Int) (h0:List Func):St Ty:=St.mk [(1, .ptr (0) [] (0) (0)),(3, .v (.int .i64 v3)),(7, .sl false (162) v7),(8, .sl false (71) v8),(9, .v (.int .i64 v9)),(10, .v (.int .i64 v10))] [some (Root.mk (33) false h0)]
def s129_j4 (f:Func):St Ty:=St.mk [] []
def s129_l8 (f:Func) (v3:Int) (v7:List S162) (v8:List (List Bool)) (v9:Int) (v10:Int) (v12:Int) (h0:List Func) (h1:List Ins):St Ty:=St.mk [(1, .ptr (0) [] (0) (0)),(3, .v (.int .i64 v3)),(7, .sl false (162) v7),(8, .sl false (71) v8),(9, .v (.int .i64 v9)),(10, .v (.int .i64 v10)),(11, .ptr (1) [] (0) (0)),(12, .v (.int .i64 v12))] [some (Root.mk (33) false h0),some (Root.mk (46) false h1)]
def s129_j6 (f:Func) (v3:Int) (v7:List S162) (v8:List (List Bool)) (v9:Int) (h0:List Func):St Ty:=St.mk [(1, .ptr (0) [] (0) (0)),(3, .v (.int .i64 v3)),(7, .sl false (162) v7),(8, .sl false (71) v8),(9, .v (.int .i64 v9))] [some (Root.mk (33) false h0)]
def s129_j9 (f:Func) (v3:Int) (v7:List S162) (v8:List (List Bool)) (v9:Int) (v10:Int) (v12:Int) (h0:List Func) (h1:List Ins):St Ty:=St.mk [(1, .ptr (0) [] (0) (0)),(3, .v (.int .i64 v3)),(7, .sl false (162) v7),(8, .sl false (71) v8),(9, .v (.int .i64 v9)),(10, .v (.int .i64 v10)),(11, .ptr (1) [] (0) (0)),(12, .v (.int .i64 v12))] [some (Root.mk (33) false h0),some (Root.mk (46) false h1)]
def s129_j8 (f:Func) (v3:Int) (v7:List S162) (v8:List (List Bool)) (v9:Int) (v10:Int) (h0:List Func):St Ty:=St.mk [(1, .ptr (0) [] (0) (0)),(3, .v (.int .i64 v3)),(7, .sl false (162) v7),(8, .sl false (71) v8),(9, .v (.int .i64 v9)),(10, .v (.int .i64 v10))] [some (Root.mk (33) false h0)]
def s129_j5 (f:Func) (v3:Int) (v7:List S162) (v8:List (List Bool)) (v9:Int) (h0:List Func):St Ty:=St.mk [(1, .ptr (0) [] (0) (0)),(3, .v (.int .i64 v3)),(7, .sl false (162) v7),(8, .sl false (71) v8),(9, .v (.int .i64 v9))] [some (Root.mk (33) false h0)]
def s129_j7 (f:Func) (v3:Int) (v7:List S162) (v8:List (List Bool)) (v9:Int) (v10:Int) (h0:List Func):St Ty:=St.mk [(1, .ptr (0) [] (0) (0)),(3, .v (.int .i64 v3)),(7, .sl false (162) v7),(8, .sl false (71) v8),(9, .v (.int .i64 v9)),(10, .v (.int .i64 v10))] [some (Root.mk (33) false h0)]
theorem e129 (J f):run tb C129 U129 J (R129 f) 4096 [.code b129] ⟨slotsA (a129 f) 0 0,heapA (a129 f)⟩=
 J k129_l0 (s129_l0 f ((↑f.params.length:Int)) 0 ([Func.mk f.name f.out f.params f.result f.blocks])):=by kernel_rfl
theorem e129_l0 (J f v3 v4 h0):run tb C129 U129 J (R129 f) 4096 k129_l0 (s129_l0 f v3 v4 h0)=
 if decide (v4<(↑(h0.getD (0) (Func.mk ByteArray.empty false [] 0 [])).blocks.length:Int))=true then
 J k129_l2 (s129_l2 f v3 v4 0 h0)
 else
 J k129_j0 (s129_j0 f v3 h0):=by kernel_rfl
theorem e129_l2 (J f v3 v4 v5 h0):run tb C129 U129 J (R129 f) 4096 k129_l2 (s129_l2 f v3 v4 v5 h0)=
 if 0≤v4 then
 if v4<(↑(h0.getD (0) (Func.mk ByteArray.empty false [] 0 [])).blocks.length:Int) then
 if decide (v5<(↑((h0.getD (0) (Func.mk ByteArray.empty false [] 0 [])).blocks.getD v4.toNat (Block.mk [])).ins.length:Int))=true then
 if 0≤v4 then
 if v4<(↑(h0.getD (0) (Func.mk ByteArray.empty false [] 0 [])).blocks.length:Int) then
 if 0≤v5 then
 if v5<(↑((h0.getD (0) (Func.mk ByteArray.empty false [] 0 [])).blocks.getD v4.toNat (Block.mk [])).ins.length:Int) then
 if ((rdI (h0.getD (0) (Func.mk ByteArray.empty false [] 0 [])).blocks v4.toNat v5.toNat).type_ != 0)=true then
 if ((rdI (h0.getD (0) (Func.mk ByteArray.empty false [] 0 [])).blocks v4.toNat v5.toNat).to_ != IntKind.i64.wrap (v3+1))=true then
 some (.v (.bool false),[.dead])
 else
 J k129_l2 (s129_l2 f (IntKind.i64.wrap (v3+1)) v4 (IntKind.i64.wrap (v5+1)) h0)
 else
 J k129_l2 (s129_l2 f v3 v4 (IntKind.i64.wrap (v5+1)) h0)
 else none
 else none
 else none
 else none
 else
 J k129_j2 (s129_j2 f v3 v4 h0)
 else none
 else none:=by kernel_rfl
theorem e129_j0 (J f v3 h0):run tb C129 U129 J (R129 f) 4096 k129_j0 (s129_j0 f v3 h0)=
 if wherePre (Func.mk (h0.getD (0) (Func.mk ByteArray.empty false [] 0 [])).name (h0.getD (0) (Func.mk ByteArray.empty false [] 0 [])).out (h0.getD (0) (Func.mk ByteArray.empty false [] 0 [])).params (h0.getD (0) (Func.mk ByteArray.empty false [] 0 [])).result (h0.getD (0) (Func.mk ByteArray.empty false [] 0 [])).blocks) then
 if okF (Func.mk (h0.getD (0) (Func.mk ByteArray.empty false [] 0 [])).name (h0.getD (0) (Func.mk ByteArray.empty false [] 0 [])).out (h0.getD (0) (Func.mk ByteArray.empty false [] 0 [])).params (h0.getD (0) (Func.mk ByteArray.empty false [] 0 [])).result (h0.getD (0) (Func.mk ByteArray.empty false [] 0 [])).blocks) then
 J k129_l4 (s129_l4 f v3 (whereL (Func.mk (h0.getD (0) (Func.mk ByteArray.empty false [] 0 [])).name (h0.getD (0) (Func.mk ByteArray.empty false [] 0 [])).out (h0.getD (0) (Func.mk ByteArray.empty false [] 0 [])).params (h0.getD (0) (Func.mk ByteArray.empty false [] 0 [])).result (h0.getD (0) (Func.mk ByteArray.empty false [] 0 [])).blocks)) (domsL (Func.mk (h0.getD (0) (Func.mk ByteArray.empty false [] 0 [])).name (h0.getD (0) (Func.mk ByteArray.empty false [] 0 [])).out (h0.getD (0) (Func.mk ByteArray.empty false [] 0 [])).params (h0.getD (0) (Func.mk ByteArray.empty false [] 0 [])).result (h0.getD (0) (Func.mk ByteArray.empty false [] 0 [])).blocks)) 0 h0)
 else none
 else none:=by kernel_rfl
theorem e129_j2 (J f v3 v4 h0):run tb C129 U129 J (R129 f) 4096 k129_j2 (s129_j2 f v3 v4 h0)=
 J k129_j1 (s129_j1 f v3 v4 h0):=by kernel_rfl
theorem e129_l4 (J f v3 v7 v8 v9 h0):run tb C129 U129 J (R129 f) 4096 k129_l4 (s129_l4 f v3 v7 v8 v9 h0)=
 if decide (v9<(↑(h0.getD (0) (Func.mk ByteArray.empty false [] 0 [])).blocks.length:Int))=true then
 J k129_l6 (s129_l6 f v3 v7 v8 v9 0 h0)
 else
 J k129_j4 (s129_j4 f):=by kernel_rfl
theorem e129_j1 (J f v3 v4 h0):run tb C129 U129 J (R129 f) 4096 k129_j1 (s129_j1 f v3 v4 h0)=
 J k129_l0 (s129_l0 f v3 (IntKind.i64.wrap (v4+1)) h0):=by kernel_rfl
theorem e129_l6 (J f v3 v7 v8 v9 v10 h0):run tb C129 U129 J (R129 f) 4096 k129_l6 (s129_l6 f v3 v7 v8 v9 v10 h0)=
 if 0≤v9 then
 if v9<(↑(h0.getD (0) (Func.mk ByteArray.empty false [] 0 [])).blocks.length:Int) then
 if decide (v10<(↑((h0.getD (0) (Func.mk ByteArray.empty false [] 0 [])).blocks.getD v9.toNat (Block.mk [])).ins.length:Int))=true then
 if 0≤v9 then
 if v9<(↑(h0.getD (0) (Func.mk ByteArray.empty false [] 0 [])).blocks.length:Int) then
 if 0≤v10 then
 if v10<(↑((h0.getD (0) (Func.mk ByteArray.empty false [] 0 [])).blocks.getD v9.toNat (Block.mk [])).ins.length:Int) then
 J k129_l8 (s129_l8 f v3 v7 v8 v9 v10 0 h0 ([Ins.mk (rdI (h0.getD (0) (Func.mk ByteArray.empty false [] 0 [])).blocks v9.toNat v10.toNat).op (rdI (h0.getD (0) (Func.mk ByteArray.empty false [] 0 [])).blocks v9.toNat v10.toNat).type_ (rdI (h0.getD (0) (Func.mk ByteArray.empty false [] 0 [])).blocks v9.toNat v10.toNat).to_ (rdI (h0.getD (0) (Func.mk ByteArray.empty false [] 0 [])).blocks v9.toNat v10.toNat).sym_ (rdI (h0.getD (0) (Func.mk ByteArray.empty false [] 0 [])).blocks v9.toNat v10.toNat).num (rdI (h0.getD (0) (Func.mk ByteArray.empty false [] 0 [])).blocks v9.toNat v10.toNat).args (rdI (h0.getD (0) (Func.mk ByteArray.empty false [] 0 [])).blocks v9.toNat v10.toNat).into]))
 else none
 else none
 else none
 else none
 else
 J k129_j6 (s129_j6 f v3 v7 v8 v9 h0)
 else none
 else none:=by kernel_rfl
theorem e129_j4 (J f):run tb C129 U129 J (R129 f) 4096 k129_j4 (s129_j4 f)=
 some (.v (.bool true),[.dead]):=by kernel_rfl
theorem e129_l8 (J f v3 v7 v8 v9 v10 v12 h0 h1):run tb C129 U129 J (R129 f) 4096 k129_l8 (s129_l8 f v3 v7 v8 v9 v10 v12 h0 h1)=
 if decide (v12<(↑(h1.getD (0) (Ins.mk 0 0 0 0 0 [] [])).args.length:Int))=true then
 if 0≤v12 then
 if v12<(↑(h1.getD (0) (Ins.mk 0 0 0 0 0 [] [])).args.length:Int) then
 if decide ((h1.getD (0) (Ins.mk 0 0 0 0 0 [] [])).args.getD v12.toNat 0<1)=false then
 if decide ((h1.getD (0) (Ins.mk 0 0 0 0 0 [] [])).args.getD v12.toNat 0>v3)=true then
 some (.v (.bool false),[.dead])
 else
 if 0≤(h1.getD (0) (Ins.mk 0 0 0 0 0 [] [])).args.getD v12.toNat 0 then
 if (h1.getD (0) (Ins.mk 0 0 0 0 0 [] [])).args.getD v12.toNat 0<(↑v7.length:Int) then
 if decide ((v7.getD (Int.toNat ((h1.getD (0) (Ins.mk 0 0 0 0 0 [] [])).args.getD v12.toNat 0)) (S162.mk 0 0)).a0<0)=true then
 J k129_j9 (s129_j9 f v3 v7 v8 v9 v10 v12 h0 h1)
 else
 if ((h1.getD (0) (Ins.mk 0 0 0 0 0 [] [])).op == 26)=true then
 if 0≤(v7.getD (Int.toNat ((h1.getD (0) (Ins.mk 0 0 0 0 0 [] [])).args.getD v12.toNat 0)) (S162.mk 0 0)).a0 then
 if (v7.getD (Int.toNat ((h1.getD (0) (Ins.mk 0 0 0 0 0 [] [])).args.getD v12.toNat 0)) (S162.mk 0 0)).a0<(↑v8.length:Int) then
 if 0≤v12 then
 if v12<(↑(h1.getD (0) (Ins.mk 0 0 0 0 0 [] [])).into.length:Int) then
 if 0≤(h1.getD (0) (Ins.mk 0 0 0 0 0 [] [])).into.getD v12.toNat 0 then
 if (h1.getD (0) (Ins.mk 0 0 0 0 0 [] [])).into.getD v12.toNat 0<(↑(List.length (v8.getD (v7.getD (Int.toNat ((h1.getD (0) (Ins.mk 0 0 0 0 0 [] [])).args.getD v12.toNat 0)) (S162.mk 0 0)).a0.toNat [])):Int) then
 if (!List.getD (v8.getD (v7.getD (Int.toNat ((h1.getD (0) (Ins.mk 0 0 0 0 0 [] [])).args.getD v12.toNat 0)) (S162.mk 0 0)).a0.toNat []) (Int.toNat ((h1.getD (0) (Ins.mk 0 0 0 0 0 [] [])).into.getD v12.toNat 0)) false)=true then
 some (.v (.bool false),[.dead])
 else
 J k129_j9 (s129_j9 f v3 v7 v8 v9 v10 v12 h0 h1)
 else none
 else none
 else none
 else none
 else none
 else none
 else
 if ((v7.getD (Int.toNat ((h1.getD (0) (Ins.mk 0 0 0 0 0 [] [])).args.getD v12.toNat 0)) (S162.mk 0 0)).a0 == v9)=true then
 if decide ((v7.getD (Int.toNat ((h1.getD (0) (Ins.mk 0 0 0 0 0 [] [])).args.getD v12.toNat 0)) (S162.mk 0 0)).a1≥v10)=false then
 if ((v7.getD (Int.toNat ((h1.getD (0) (Ins.mk 0 0 0 0 0 [] [])).args.getD v12.toNat 0)) (S162.mk 0 0)).a0 != v9)=true then
 if 0≤(v7.getD (Int.toNat ((h1.getD (0) (Ins.mk 0 0 0 0 0 [] [])).args.getD v12.toNat 0)) (S162.mk 0 0)).a0 then
 if (v7.getD (Int.toNat ((h1.getD (0) (Ins.mk 0 0 0 0 0 [] [])).args.getD v12.toNat 0)) (S162.mk 0 0)).a0<(↑v8.length:Int) then
 if 0≤v9 then
 if v9<(↑(List.length (v8.getD (v7.getD (Int.toNat ((h1.getD (0) (Ins.mk 0 0 0 0 0 [] [])).args.getD v12.toNat 0)) (S162.mk 0 0)).a0.toNat [])):Int) then
 if (!List.getD (v8.getD (v7.getD (Int.toNat ((h1.getD (0) (Ins.mk 0 0 0 0 0 [] [])).args.getD v12.toNat 0)) (S162.mk 0 0)).a0.toNat []) v9.toNat false)=true then
 some (.v (.bool false),[.dead])
 else
 J k129_j9 (s129_j9 f v3 v7 v8 v9 v10 v12 h0 h1)
 else none
 else none
 else none
 else none
 else
 J k129_j9 (s129_j9 f v3 v7 v8 v9 v10 v12 h0 h1)
 else
 some (.v (.bool false),[.dead])
 else
 if ((v7.getD (Int.toNat ((h1.getD (0) (Ins.mk 0 0 0 0 0 [] [])).args.getD v12.toNat 0)) (S162.mk 0 0)).a0 != v9)=true then
 if 0≤(v7.getD (Int.toNat ((h1.getD (0) (Ins.mk 0 0 0 0 0 [] [])).args.getD v12.toNat 0)) (S162.mk 0 0)).a0 then
 if (v7.getD (Int.toNat ((h1.getD (0) (Ins.mk 0 0 0 0 0 [] [])).args.getD v12.toNat 0)) (S162.mk 0 0)).a0<(↑v8.length:Int) then
 if 0≤v9 then
 if v9<(↑(List.length (v8.getD (v7.getD (Int.toNat ((h1.getD (0) (Ins.mk 0 0 0 0 0 [] [])).args.getD v12.toNat 0)) (S162.mk 0 0)).a0.toNat [])):Int) then
 if (!List.getD (v8.getD (v7.getD (Int.toNat ((h1.getD (0) (Ins.mk 0 0 0 0 0 [] [])).args.getD v12.toNat 0)) (S162.mk 0 0)).a0.toNat []) v9.toNat false)=true then
 some (.v (.bool false),[.dead])
 else
 J k129_j9 (s129_j9 f v3 v7 v8 v9 v10 v12 h0 h1)
 else none
 else none
 else none
 else none
 else
 J k129_j9 (s129_j9 f v3 v7 v8 v9 v10 v12 h0 h1)
 else none
 else none
 else
 some (.v (.bool false),[.dead])
 else none
 else none
 else
 J k129_j8 (s129_j8 f v3 v7 v8 v9 v10 h0):=by kernel_rfl
theorem e129_j6 (J f v3 v7 v8 v9 h0):run tb C129 U129 J (R129 f) 4096 k129_j6 (s129_j6 f v3 v7 v8 v9 h0)=
 J k129_j5 (s129_j5 f v3 v7 v8 v9 h0):=by kernel_rfl
theorem e129_j9 (J f v3 v7 v8 v9 v10 v12 h0 h1):run tb C129 U129 J (R129 f) 4096 k129_j9 (s129_j9 f v3 v7 v8 v9 v10 v12 h0 h1)=
 J k129_l8 (s129_l8 f v3 v7 v8 v9 v10 (IntKind.i64.wrap (v12+1)) h0 h1):=by kernel_rfl
theorem e129_j8 (J f v3 v7 v8 v9 v10 h0):run tb C129 U129 J (R129 f) 4096 k129_j8 (s129_j8 f v3 v7 v8 v9 v10 h0)=
 J k129_j7 (s129_j7 f v3 v7 v8 v9 v10 h0):=by kernel_rfl
theorem e129_j5 (J f v3 v7 v8 v9 h0):run tb C129 U129 J (R129 f) 4096 k129_j5 (s129_j5 f v3 v7 v8 v9 h0)=
 J k129_l4 (s129_l4 f v3 v7 v8 (IntKind.i64.wrap (v9+1)) h0):=by kernel_rfl
theorem e129_j7 (J f v3 v7 v8 v9 v10 h0):run tb C129 U129 J (R129 f) 4096 k129_j7 (s129_j7 f v3 v7 v8 v9 v10 h0)=
 J k129_l6 (s129_l6 f v3 v7 v8 v9 (IntKind.i64.wrap (v10+1)) h0):=by kernel_rfl

theorem in129:Entered 129:=⟨Try.f129,b129,by kernel_rfl,by kernel_rfl,by kernel_rfl⟩
theorem fn129 (f:Ev.Func) {res:AV Ty} {outs:List (AV Ty)} (h:Ends C129 U129 (R129 f) [.code b129] ⟨slotsA (a129 f) 0 0,heapA (a129 f)⟩ (some (res,outs))):CallOk tb Try.prog 129 (a129 f) res outs:=by
 obtain ⟨n0,hn⟩:=h
 exact fn_ok (C:=C129) (U:=U129) (n:=0+n0) (q:= .keep) tbOk good (fun f mu S h=>by
  unfold C129 at h
  simp only at h
  split at h
  ·cases h;exact ⟨in153,S153_ok⟩
  ·cases h;exact ⟨in154,S154_ok⟩
  ·cases h) mixed (fn:=Try.f129) (body:=b129) (by kernel_rfl) (by kernel_rfl) rfl rfl (by show 1≤154;omega) (hn 0)
section
variable {f:Ev.Func}
theorem Uses.i (hf:okF f) {b k:Nat} (hb:b<f.blocks.length) (hk:k<(f.blocks.getD b (Block.mk [])).ins.length):Way C129 U129 (R129 f) (rD false) k129_l2 (s129_l2 f (loc f b k) b k [f]) k129_l2 (s129_l2 f (loc f b (k+1)) b (k+1:Nat) [f]) (((f.blocks.getD b (Block.mk [])).ins.getD k (Ins.mk 0 0 0 0 0 [] [])).type_≠0→((f.blocks.getD b (Block.mk [])).ins.getD k (Ins.mk 0 0 0 0 0 [] [])).to_=loc f b (k+1)):=by
 have h1:=hf.b hb
 have h2:=types_len hf
 have hs:=loc_step hk
 have hle:=loc_le (k:=k+1) hb
 refine Way.of (fun J=>e129_l2 J f (loc f b k) b k [f]) ?_
 have w:IntKind.i64.wrap ((k:Int)+1)=((k+1:Nat):Int):=wrap_nat (by omega) (by omega)
 cases ht:(((f.blocks.getD b (Block.mk [])).ins.getD k (Ins.mk 0 0 0 0 0 [] [])).type_ != 0) with
 |false=>
  rw [ht] at hs
  simp only [Bool.false_eq_true,if_false,Nat.add_zero] at hs
  have ht2:((f.blocks.getD b (Block.mk [])).ins.getD k (Ins.mk 0 0 0 0 0 [] [])).type_=0:=by simpa using ht
  rw [hs]
  simp only [rdI,List.getD_cons_zero,Int.toNat_natCast,w]
  repeat' first|refine tree_qt (fun _=> ?_) (fun _=> ?_)|refine tree_qf (fun _=> ?_) (fun _=> ?_)|refine tree_nt (fun _=> ?_) (fun _=> ?_)|refine tree_nf (fun _=> ?_) (fun _=> ?_)|refine tree_et (fun _=> ?_) (fun _=> ?_)|refine tree_ef (fun _=> ?_) (fun _=> ?_)|refine tree_dt (fun _=> ?_) (fun _=> ?_)|refine tree_df (fun _=> ?_) (fun _=> ?_)|refine tree_bt (fun _=> ?_) (fun _=> ?_)|refine tree_bf (fun _=> ?_) (fun _=> ?_)|refine tree_ite (fun _=> ?_) (fun _=> ?_)
  all_goals first|exact WayT.yes (fun J=>rfl) (fun e=>absurd ht2 e)|(exfalso;omega)
 |true=>
  rw [ht] at hs
  simp only [if_true] at hs
  have ht2:((f.blocks.getD b (Block.mk [])).ins.getD k (Ins.mk 0 0 0 0 0 [] [])).type_≠0:=by simpa using ht
  have w2:IntKind.i64.wrap ((loc f b k:Int)+1)=((loc f b k+1:Nat):Int):=wrap_nat (by omega) (by omega)
  rw [hs]
  simp only [w2,rdI,List.getD_cons_zero,Int.toNat_natCast,w]
  repeat' first|refine tree_qt (fun _=> ?_) (fun _=> ?_)|refine tree_qf (fun _=> ?_) (fun _=> ?_)|refine tree_nt (fun _=> ?_) (fun _=> ?_)|refine tree_nf (fun _=> ?_) (fun _=> ?_)|refine tree_et (fun _=> ?_) (fun _=> ?_)|refine tree_ef (fun _=> ?_) (fun _=> ?_)|refine tree_dt (fun _=> ?_) (fun _=> ?_)|refine tree_df (fun _=> ?_) (fun _=> ?_)|refine tree_bt (fun _=> ?_) (fun _=> ?_)|refine tree_bf (fun _=> ?_) (fun _=> ?_)|refine tree_ite (fun _=> ?_) (fun _=> ?_)
  all_goals first|exact WayT.no (fun J=>rfl)|exact WayT.yes (fun J=>rfl) (fun _=>by assumption)|(exfalso;omega)
theorem Uses.b (hf:okF f) {b:Nat} (hb:b<f.blocks.length):Way C129 U129 (R129 f) (rD false) k129_l0 (s129_l0 f (loc f b 0) b [f]) k129_l0 (s129_l0 f (loc f (b+1) 0) (b+1:Nat) [f]) (∀k,k<(f.blocks.getD b (Block.mk [])).ins.length→((f.blocks.getD b (Block.mk [])).ins.getD k (Ins.mk 0 0 0 0 0 [] [])).type_≠0→((f.blocks.getD b (Block.mk [])).ins.getD k (Ins.mk 0 0 0 0 0 [] [])).to_=loc f b (k+1)):=by
 have h0:=hf.2.1
 have ww:IntKind.i64.wrap ((b:Int)+1)=((b+1:Nat):Int):=wrap_nat (by omega) (by omega)
 refine Goes.way (k':=k129_l2) (s':=s129_l2 f (loc f b 0) b (0:Nat) [f]) (.step fun J=> ?_) ?_
 ·rw [e129_l0]
  simp only [List.getD_cons_zero]
  simp (disch:=first|omega|assumption|(rw [dT];omega)|(rw [dF];omega)) only [↓iP,↓iN,iT,iF,wrap_up,tN,Nat.zero_add]
  rfl
 refine (Way.upto (fun k=>s129_l2 f (loc f b k) b k [f]) _ _ (fun k hk _=>Uses.i hf hb hk) _ (Nat.le_refl _)).then fun _=> ?_
 rw [loc_next hb]
 refine Goes.trans (k':=k129_j2) (s':=s129_j2 f (loc f (b+1) 0) b [f]) (.step fun J=> ?_) (.trans (.step fun J=>e129_j2 ..) (.step fun J=> ?_))
 ·rw [e129_l2]
  simp only [List.getD_cons_zero,Int.toNat_natCast]
  simp (disch:=first|omega|assumption|(rw [dT];omega)|(rw [dF];omega)) only [↓iP,↓iN,iT,iF,wrap_up,tN,Nat.zero_add]
 ·rw [e129_j1,ww]
theorem Uses.a (h:usesPre f) {b k j:Nat} (hb:b<f.blocks.length) (hk:k<(f.blocks.getD b (Block.mk [])).ins.length) (hj:j<((f.blocks.getD b (Block.mk [])).ins.getD k (Ins.mk 0 0 0 0 0 [] [])).args.length) {n:Nat} (hn:n+1=(typesOf f).length):Way C129 U129 (R129 f) (rD false) k129_l8 (s129_l8 f n (whereL f) (domsL f) b k j [f] [(f.blocks.getD b (Block.mk [])).ins.getD k (Ins.mk 0 0 0 0 0 [] [])]) k129_l8 (s129_l8 f n (whereL f) (domsL f) b k (j+1:Nat) [f] [(f.blocks.getD b (Block.mk [])).ins.getD k (Ins.mk 0 0 0 0 0 [] [])]) (1≤((f.blocks.getD b (Block.mk [])).ins.getD k (Ins.mk 0 0 0 0 0 [] [])).args.getD j 0∧((f.blocks.getD b (Block.mk [])).ins.getD k (Ins.mk 0 0 0 0 0 [] [])).args.getD j 0<(typesOf f).length):=by
 obtain ⟨hw,hq,hfl⟩:=h
 have hf:=hw.1
 have hN:=hw.2
 have h0:=hf.2.1
 obtain ⟨⟨wl,wd⟩,_⟩:=whereL_ok f hw
 obtain ⟨⟨dl,dd⟩,_⟩:=domsL_ok f hf
 have hx:=hq b hb k hk
 have hph:=hfl.2 b hb k hk
 have ha:=((hf.2.2 _ (getD_mem (d:=(Block.mk [])) hb)).2 _ (getD_mem (d:=(Ins.mk 0 0 0 0 0 [] [])) hk)).1
 generalize (f.blocks.getD b (Block.mk [])).ins.getD k (Ins.mk 0 0 0 0 0 [] [])=x at*
 have hinto:x.op=26→x.into.length=x.args.length∧0≤x.into.getD j 0∧x.into.getD j 0<f.blocks.length:=fun e=>by
  have h1:=(hx.1.2.2.2.2.2.2.1 e).2
  obtain ⟨h2,h3⟩:=hph e
  refine ⟨h1,?_⟩
  have hp:=prevL_in hf
  have hm:x.into.getD j 0∈(prevL f).getD b []:=by
   rw [←h3]
   exact getD_mem (by omega)
  exact (hp.2 _ (getD_mem (d:=[]) (show b<(prevL f).length by rw [hp.1];exact hb))).1 _ hm
 have ww:IntKind.i64.wrap ((j:Int)+1)=((j+1:Nat):Int):=wrap_nat (by omega) (by omega)
 have hd:((whereL f).getD (x.args.getD j 0).toNat ⟨0,0⟩).a0<f.blocks.length:=by
  by_cases hv:(x.args.getD j 0).toNat<(whereL f).length
  ·exact wd _ (getD_mem hv)
  ·have:(whereL f).getD (x.args.getD j 0).toNat ⟨0,0⟩=⟨0,0⟩:=by
    rw [List.getD_eq_getElem?_getD,List.getElem?_eq_none (by omega)]
    rfl
   rw [this]
   simp only
   omega
 have hrow:=dd ((whereL f).getD (x.args.getD j 0).toNat ⟨0,0⟩).a0.toNat
 refine (Way.of (k':=k129_j9) (s':=s129_j9 f n (whereL f) (domsL f) b k j [f] [x]) (fun J=>e129_l8 J f n (whereL f) (domsL f) b k j [f] [x]) ?_).then fun _=> .step fun J=>by rw [e129_j9,ww]
 simp only [List.getD_cons_zero,Int.toNat_natCast]
 clear hq hfl hx hph wd dd
 generalize hD:(whereL f).getD (x.args.getD j 0).toNat ⟨0,0⟩=d at*
 repeat' first|refine tree_qt (fun _=> ?_) (fun _=> ?_)|refine tree_qf (fun _=> ?_) (fun _=> ?_)|refine tree_nt (fun _=> ?_) (fun _=> ?_)|refine tree_nf (fun _=> ?_) (fun _=> ?_)|refine tree_et (fun _=> ?_) (fun _=> ?_)|refine tree_ef (fun _=> ?_) (fun _=> ?_)|refine tree_dt (fun _=> ?_) (fun _=> ?_)|refine tree_df (fun _=> ?_) (fun _=> ?_)|refine tree_bt (fun _=> ?_) (fun _=> ?_)|refine tree_bf (fun _=> ?_) (fun _=> ?_)|refine tree_ite (fun _=> ?_) (fun _=> ?_)
 all_goals first|exact WayT.no (fun J=>rfl)|exact WayT.yes (fun J=>rfl) (by omega)|(exfalso;omega)
theorem Uses.k (h:usesPre f) {b k:Nat} (hb:b<f.blocks.length) (hk:k<(f.blocks.getD b (Block.mk [])).ins.length) {n:Nat} (hn:n+1=(typesOf f).length):Way C129 U129 (R129 f) (rD false) k129_l6 (s129_l6 f n (whereL f) (domsL f) b k [f]) k129_l6 (s129_l6 f n (whereL f) (domsL f) b (k+1:Nat) [f]) (∀j,j<((f.blocks.getD b (Block.mk [])).ins.getD k (Ins.mk 0 0 0 0 0 [] [])).args.length→1≤((f.blocks.getD b (Block.mk [])).ins.getD k (Ins.mk 0 0 0 0 0 [] [])).args.getD j 0∧((f.blocks.getD b (Block.mk [])).ins.getD k (Ins.mk 0 0 0 0 0 [] [])).args.getD j 0<(typesOf f).length):=by
 have h1:=h.1.1.b hb
 have ww:IntKind.i64.wrap ((k:Int)+1)=((k+1:Nat):Int):=wrap_nat (by omega) (by omega)
 refine Goes.way (k':=k129_l8) (s':=s129_l8 f n (whereL f) (domsL f) b k (0:Nat) [f] [(f.blocks.getD b (Block.mk [])).ins.getD k (Ins.mk 0 0 0 0 0 [] [])]) (.step fun J=> ?_) ?_
 ·rw [e129_l6]
  simp only [List.getD_cons_zero,Int.toNat_natCast,rdI]
  simp (disch:=first|omega|assumption|(rw [dT];omega)|(rw [dF];omega)) only [↓iP,↓iN,iT,iF,wrap_up,tN,Nat.zero_add]
  rfl
 refine (Way.upto (fun j=>s129_l8 f n (whereL f) (domsL f) b k j [f] [(f.blocks.getD b (Block.mk [])).ins.getD k (Ins.mk 0 0 0 0 0 [] [])]) _ _ (fun j hj _=>Uses.a h hb hk hj hn) _ (Nat.le_refl _)).then fun _=> ?_
 refine Goes.trans (k':=k129_j8) (s':=s129_j8 f n (whereL f) (domsL f) b k [f]) (.step fun J=> ?_) (.trans (.step fun J=>e129_j8 ..) (.step fun J=> ?_))
 ·rw [e129_l8]
  simp only [List.getD_cons_zero,Int.toNat_natCast]
  simp (disch:=first|omega|assumption|(rw [dT];omega)|(rw [dF];omega)) only [↓iP,↓iN,iT,iF,wrap_up,tN,Nat.zero_add]
 ·rw [e129_j7,ww]
theorem Uses.c (h:usesPre f) {b:Nat} (hb:b<f.blocks.length) {n:Nat} (hn:n+1=(typesOf f).length):Way C129 U129 (R129 f) (rD false) k129_l4 (s129_l4 f n (whereL f) (domsL f) b [f]) k129_l4 (s129_l4 f n (whereL f) (domsL f) (b+1:Nat) [f]) (∀k,k<(f.blocks.getD b (Block.mk [])).ins.length→ ∀j,j<((f.blocks.getD b (Block.mk [])).ins.getD k (Ins.mk 0 0 0 0 0 [] [])).args.length→1≤((f.blocks.getD b (Block.mk [])).ins.getD k (Ins.mk 0 0 0 0 0 [] [])).args.getD j 0∧((f.blocks.getD b (Block.mk [])).ins.getD k (Ins.mk 0 0 0 0 0 [] [])).args.getD j 0<(typesOf f).length):=by
 have h0:=h.1.1.2.1
 have ww:IntKind.i64.wrap ((b:Int)+1)=((b+1:Nat):Int):=wrap_nat (by omega) (by omega)
 refine Goes.way (k':=k129_l6) (s':=s129_l6 f n (whereL f) (domsL f) b (0:Nat) [f]) (.step fun J=> ?_) ?_
 ·rw [e129_l4]
  simp only [List.getD_cons_zero]
  simp (disch:=first|omega|assumption|(rw [dT];omega)|(rw [dF];omega)) only [↓iP,↓iN,iT,iF,wrap_up,tN,Nat.zero_add]
  rfl
 refine (Way.upto (fun k=>s129_l6 f n (whereL f) (domsL f) b k [f]) _ _ (fun k hk _=>Uses.k h hb hk hn) _ (Nat.le_refl _)).then fun _=> ?_
 refine Goes.trans (k':=k129_j6) (s':=s129_j6 f n (whereL f) (domsL f) b [f]) (.step fun J=> ?_) (.trans (.step fun J=>e129_j6 ..) (.step fun J=> ?_))
 ·rw [e129_l6]
  simp only [List.getD_cons_zero,Int.toNat_natCast]
  simp (disch:=first|omega|assumption|(rw [dT];omega)|(rw [dF];omega)) only [↓iP,↓iN,iT,iF,wrap_up,tN,Nat.zero_add]
 ·rw [e129_j5,ww]
theorem uses3_ok (h:usesPre f): ∃b,Tells 129 (a129 f) [.dead] (ToQ f∧ArgQ f) b:=by
 have hf:=h.1.1
 have hw:=h.1
 have e0:(Func.mk f.name f.out f.params f.result f.blocks)=f:=rfl
 have:Says C129 U129 (R129 f) rD [.code b129] ⟨slotsA (a129 f) 0 0,heapA (a129 f)⟩ (ToQ f∧ArgQ f):=by
  refine Goes.says (k':=k129_l0) (s':=s129_l0 f (loc f 0 0) (0:Nat) [f]) (.step fun J=> ?_) ?_
  ·rw [e129,loc_zero]
   rfl
  refine Way.says (Way.upto (fun b=>s129_l0 f (loc f b 0) b [f]) _ _ (fun b hb _=>Uses.b hf hb) _ (Nat.le_refl _)) fun _=> ?_
  have hn:=loc_end hf
  generalize loc f f.blocks.length 0=n at*
  refine Goes.says (k':=k129_l4) (s':=s129_l4 f n (whereL f) (domsL f) (0:Nat) [f]) (.trans (k':=k129_j0) (s':=s129_j0 f n [f]) (.step fun J=> ?_) (.step fun J=> ?_)) ?_
  ·rw [e129_l0]
   simp only [List.getD_cons_zero]
   simp (disch:=first|omega|assumption|(rw [dT];omega)|(rw [dF];omega)) only [↓iP,↓iN,iT,iF,wrap_up,tN,Nat.zero_add]
  ·rw [e129_j0]
   simp only [List.getD_cons_zero]
   rw [e0]
   simp (disch:=first|omega|assumption|(rw [dT];omega)|(rw [dF];omega)) only [↓iP,↓iN,iT,iF,wrap_up,tN,Nat.zero_add,hf,hw]
   rfl
  refine (Way.says (Q':=True) (Way.upto (fun b=>s129_l4 f n (whereL f) (domsL f) b [f]) _ _ (fun b hb _=>Uses.c h hb hn) _ (Nat.le_refl _)) fun _=> ?_).mono fun q=>q.1
  refine Goes.says (k':=k129_j4) (s':=s129_j4 f) (.step fun J=> ?_) (.yes (.step fun J=>e129_j4 ..) trivial)
  rw [e129_l4]
  simp only [List.getD_cons_zero]
  simp (disch:=first|omega|assumption|(rw [dT];omega)|(rw [dF];omega)) only [↓iP,↓iN,iT,iF,wrap_up,tN,Nat.zero_add]
 obtain ⟨b,h1,h2⟩:=this
 exact ⟨b,fn129 f h1,h2⟩
end
noncomputable def usesB (f:Ev.Func):Bool:=told 129 (a129 f) [.dead] (ToQ f∧ArgQ f)
theorem usesB_ok (f:Ev.Func) (h:usesPre f):CallOk tb Try.prog 129 (a129 f) (.v (.bool (usesB f))) [.dead]:=(told_ok (uses3_ok h)).1
noncomputable def S129:List (AV Ty)→T (AV Ty×List (AV Ty))
 |[.agg x]=>match cod33.dec false x with
  |some f=> .ite (usesPre f) (Classical.propDecidable _) (.ret (.v (.bool (usesB f)),[.dead])) .fail
  |none=> .fail
 |_=> .fail
theorem S129_ok (l:List (AV Ty)) (r:AV Ty) (outs:List (AV Ty)) (h:(S129 l).val=some (r,outs)):CallOk tb Try.prog 129 l r outs:=by
 unfold S129 at h
 split at h
 ·rename_i x
  split at h
  ·rename_i f e1
   rcases ite_val h with ⟨e,h⟩|⟨_,h⟩
   ·cases h
    have h1:=cod33_ok.dec false x f e1
    subst h1
    exact usesB_ok f e
   ·cases h
  ·cases h
 ·cases h
end Go.Proofs.Ytggibjbcbicpjaa.Ev
namespace Go.Proofs.Ytggibjbcbicpjaa.Ev
open Go
set_option linter.unusedVariables false
set_option linter.unusedSimpArgs false
abbrev rD2 (b:Bool):EvR:=some (.v (.bool b),[.dead, .dead])
def typesPre (m:Ev.Module) (f:Ev.Func):Prop:=okF f∧FnQ f∧FnS m f∧ArgQ f
noncomputable instance fitPre.dec (m:Ev.Module) (i:Ev.Ins) (l:List Int):Decidable (fitPre m i l):=Classical.propDecidable _
noncomputable instance flowPre.dec (f:Ev.Func):Decidable (flowPre f):=Classical.propDecidable _
noncomputable instance usesPre.dec (f:Ev.Func):Decidable (usesPre f):=Classical.propDecidable _
noncomputable instance typesPre.dec (m:Ev.Module) (f:Ev.Func):Decidable (typesPre m f):=Classical.propDecidable _
def gotL (t l:List Int):List Int:=l.map fun a=>t.getD a.toNat 0
noncomputable def b130:Code:=bodyOf Try.f130
noncomputable def C130:Cfg Ty:=⟨fun
 |30=>some ([],S30)
 |155=>some ([],S155)
 |_=>none,fun _=>false,64,0⟩
def U130:Cuts:=⟨fun
 |0=>some []
 |1=>some [(2,none),(3,none),(5,none),(6,none)]
 |2=>some [(2,none),(3,none),(5,none),(6,none)]
 |3=>some [(2,none),(3,none),(5,none),(6,none),(7,none)]
 |4=>some [(2,none),(3,none),(5,none),(6,none),(7,none),(8,none),(9,some 3)]
 |_=>none,fun
 |0=>some [(2,none),(3,none),(5,none),(6,none)]
 |2=>some [(2,none),(3,none),(5,none),(6,none),(7,none)]
 |4=>some [(2,none),(3,none),(5,none),(6,none),(7,none),(8,none),(9,some 3),(10,none)]
 |_=>none,fun _=>none⟩
noncomputable def k130_j0:List Item:=[.code (sndC (sndC (sndC b130)))]
noncomputable def k130_l0:List Item:=[.code (inC (inC (sndC (fstC (sndC (sndC b130)))))), .inLoop (inC (inC (sndC (fstC (sndC (sndC b130)))))), .inBlock 0, .code (sndC (sndC (sndC b130)))]
noncomputable def k130_j1:List Item:=[.code (sndC (sndC (inC (inC (sndC (fstC (sndC (sndC b130)))))))), .inLoop (inC (inC (sndC (fstC (sndC (sndC b130)))))), .inBlock 0, .code (sndC (sndC (sndC b130)))]
noncomputable def k130_j2:List Item:=[.inBlock 1, .code (sndC (sndC (inC (inC (sndC (fstC (sndC (sndC b130)))))))), .inLoop (inC (inC (sndC (fstC (sndC (sndC b130)))))), .inBlock 0, .code (sndC (sndC (sndC b130)))]
noncomputable def k130_l2:List Item:=[.code (inC (inC (sndC (inC (fstC (sndC (inC (inC (sndC (fstC (sndC (sndC b130)))))))))))), .inLoop (inC (inC (sndC (inC (fstC (sndC (inC (inC (sndC (fstC (sndC (sndC b130)))))))))))), .inBlock 2, .inBlock 1, .code (sndC (sndC (inC (inC (sndC (fstC (sndC (sndC b130)))))))), .inLoop (inC (inC (sndC (fstC (sndC (sndC b130)))))), .inBlock 0, .code (sndC (sndC (sndC b130)))]
noncomputable def k130_j3:List Item:=[.code (sndC (sndC (inC (inC (sndC (inC (fstC (sndC (inC (inC (sndC (fstC (sndC (sndC b130)))))))))))))), .inLoop (inC (inC (sndC (inC (fstC (sndC (inC (inC (sndC (fstC (sndC (sndC b130)))))))))))), .inBlock 2, .inBlock 1, .code (sndC (sndC (inC (inC (sndC (fstC (sndC (sndC b130)))))))), .inLoop (inC (inC (sndC (fstC (sndC (sndC b130)))))), .inBlock 0, .code (sndC (sndC (sndC b130)))]
noncomputable def k130_j4:List Item:=[.code (sndC (sndC (sndC (inC (fstC (sndC (inC (inC (sndC (inC (fstC (sndC (inC (inC (sndC (fstC (sndC (sndC b130)))))))))))))))))), .inBlock 3, .code (sndC (sndC (inC (inC (sndC (inC (fstC (sndC (inC (inC (sndC (fstC (sndC (sndC b130)))))))))))))), .inLoop (inC (inC (sndC (inC (fstC (sndC (inC (inC (sndC (fstC (sndC (sndC b130)))))))))))), .inBlock 2, .inBlock 1, .code (sndC (sndC (inC (inC (sndC (fstC (sndC (sndC b130)))))))), .inLoop (inC (inC (sndC (fstC (sndC (sndC b130)))))), .inBlock 0, .code (sndC (sndC (sndC b130)))]
noncomputable def k130_l4:List Item:=[.code (inC (inC (sndC (fstC (sndC (sndC (inC (fstC (sndC (inC (inC (sndC (inC (fstC (sndC (inC (inC (sndC (fstC (sndC (sndC b130))))))))))))))))))))), .inLoop (inC (inC (sndC (fstC (sndC (sndC (inC (fstC (sndC (inC (inC (sndC (inC (fstC (sndC (inC (inC (sndC (fstC (sndC (sndC b130))))))))))))))))))))), .inBlock 4, .code (sndC (sndC (sndC (inC (fstC (sndC (inC (inC (sndC (inC (fstC (sndC (inC (inC (sndC (fstC (sndC (sndC b130)))))))))))))))))), .inBlock 3, .code (sndC (sndC (inC (inC (sndC (inC (fstC (sndC (inC (inC (sndC (fstC (sndC (sndC b130)))))))))))))), .inLoop (inC (inC (sndC (inC (fstC (sndC (inC (inC (sndC (fstC (sndC (sndC b130)))))))))))), .inBlock 2, .inBlock 1, .code (sndC (sndC (inC (inC (sndC (fstC (sndC (sndC b130)))))))), .inLoop (inC (inC (sndC (fstC (sndC (sndC b130)))))), .inBlock 0, .code (sndC (sndC (sndC b130)))]
def a130 (m:Module) (f:Func):List (AV Ty):=[.agg [.sl false (91:Nat) m.externs, .sl false (94:Nat) m.globals, .sl false (96:Nat) m.tables, .sl false (33:Nat) m.funcs], .agg [.v (.string f.name), .v (.bool f.out), .sl false (3:Nat) f.params, .v (.int .i64 f.result), .sl false (44:Nat) f.blocks]]
noncomputable def R130 (m:Module) (f:Func):St Ty→EvR:=resT tb C130 Try.f130.results.toList .keep (a130 m f)
def s130_l0 (m:Module) (f:Func) (v6:Int) (h0:List Module) (h1:List Func) (h2:List Int):St Ty:=St.mk [(2, .ptr (0) [] (0) (0)),(3, .ptr (1) [] (0) (0)),(5, .ref (2) [] none false),(6, .v (.int .i64 v6))] [some (Root.mk (27) false h0),some (Root.mk (33) false h1),some (Root.mk (3) true h2)]
def s130_l2 (m:Module) (f:Func) (v6:Int) (v7:Int) (h0:List Module) (h1:List Func) (h2:List Int):St Ty:=St.mk [(2, .ptr (0) [] (0) (0)),(3, .ptr (1) [] (0) (0)),(5, .ref (2) [] none false),(6, .v (.int .i64 v6)),(7, .v (.int .i64 v7))] [some (Root.mk (27) false h0),some (Root.mk (33) false h1),some (Root.mk (3) true h2)]
def s130_j0 (m:Module) (f:Func):St Ty:=St.mk [] []
def s130_l4 (m:Module) (f:Func) (v6:Int) (v7:Int) (v10:Int) (h0:List Module) (h1:List Func) (h2:List Int) (h3:List Ins) (h4:List Int):St Ty:=St.mk [(2, .ptr (0) [] (0) (0)),(3, .ptr (1) [] (0) (0)),(5, .ref (2) [] none false),(6, .v (.int .i64 v6)),(7, .v (.int .i64 v7)),(8, .ptr (3) [] (0) (0)),(9, .ref (4) [] none false),(10, .v (.int .i64 v10))] [some (Root.mk (27) false h0),some (Root.mk (33) false h1),some (Root.mk (3) true h2),some (Root.mk (46) false h3),some (Root.mk (3) false h4)]
def s130_j2 (m:Module) (f:Func) (v6:Int) (h0:List Module) (h1:List Func) (h2:List Int):St Ty:=St.mk [(2, .ptr (0) [] (0) (0)),(3, .ptr (1) [] (0) (0)),(5, .ref (2) [] none false),(6, .v (.int .i64 v6))] [some (Root.mk (27) false h0),some (Root.mk (33) false h1),some (Root.mk (3) true h2)]
def s130_j4 (m:Module) (f:Func) (v6:Int) (v7:Int) (h0:List Module) (h1:List Func) (h2:List Int) (h3:List Ins) (h4:List Int):St Ty:=St.mk [(2, .ptr (0) [] (0) (0)),(3, .ptr (1) [] (0) (0)),(5, .ref (2) [] none false),(6, .v (.int .i64 v6)),(7, .v (.int .i64 v7)),(8, .ptr (3) [] (0) (0)),(9, .ref (4) [] none false)] [some (Root.mk (27) false h0),some (Root.mk (33) false h1),some (Root.mk (3) true h2),some (Root.mk (46) false h3),some (Root.mk (3) false h4)]
def s130_j1 (m:Module) (f:Func) (v6:Int) (h0:List Module) (h1:List Func) (h2:List Int):St Ty:=St.mk [(2, .ptr (0) [] (0) (0)),(3, .ptr (1) [] (0) (0)),(5, .ref (2) [] none false),(6, .v (.int .i64 v6))] [some (Root.mk (27) false h0),some (Root.mk (33) false h1),some (Root.mk (3) true h2)]
def s130_j3 (m:Module) (f:Func) (v6:Int) (v7:Int) (h0:List Module) (h1:List Func) (h2:List Int):St Ty:=St.mk [(2, .ptr (0) [] (0) (0)),(3, .ptr (1) [] (0) (0)),(5, .ref (2) [] none false),(6, .v (.int .i64 v6)),(7, .v (.int .i64 v7))] [some (Root.mk (27) false h0),some (Root.mk (33) false h1),some (Root.mk (3) true h2)]
theorem e130 (J m f):run tb C130 U130 J (R130 m f) 4096 [.code b130] ⟨slotsA (a130 m f) 0 0,heapA (a130 m f)⟩=
 if okF (Func.mk f.name f.out f.params f.result f.blocks) then
 J k130_l0 (s130_l0 m f 0 ([Module.mk m.externs m.globals m.tables m.funcs]) ([Func.mk f.name f.out f.params f.result f.blocks]) (typesOf (Func.mk f.name f.out f.params f.result f.blocks)))
 else none:=by kernel_rfl
theorem e130_l0 (J m f v6 h0 h1 h2):run tb C130 U130 J (R130 m f) 4096 k130_l0 (s130_l0 m f v6 h0 h1 h2)=
 if decide (v6<(↑(h1.getD (0) (Func.mk ByteArray.empty false [] 0 [])).blocks.length:Int))=true then
 J k130_l2 (s130_l2 m f v6 0 h0 h1 h2)
 else
 J k130_j0 (s130_j0 m f):=by kernel_rfl
theorem e130_l2 (J m f v6 v7 h0 h1 h2):run tb C130 U130 J (R130 m f) 4096 k130_l2 (s130_l2 m f v6 v7 h0 h1 h2)=
 if 0≤v6 then
 if v6<(↑(h1.getD (0) (Func.mk ByteArray.empty false [] 0 [])).blocks.length:Int) then
 if decide (v7<(↑((h1.getD (0) (Func.mk ByteArray.empty false [] 0 [])).blocks.getD v6.toNat (Block.mk [])).ins.length:Int))=true then
 if 0≤v6 then
 if v6<(↑(h1.getD (0) (Func.mk ByteArray.empty false [] 0 [])).blocks.length:Int) then
 if 0≤v7 then
 if v7<(↑((h1.getD (0) (Func.mk ByteArray.empty false [] 0 [])).blocks.getD v6.toNat (Block.mk [])).ins.length:Int) then
 J k130_l4 (s130_l4 m f v6 v7 0 h0 h1 h2 ([Ins.mk (rdI (h1.getD (0) (Func.mk ByteArray.empty false [] 0 [])).blocks v6.toNat v7.toNat).op (rdI (h1.getD (0) (Func.mk ByteArray.empty false [] 0 [])).blocks v6.toNat v7.toNat).type_ (rdI (h1.getD (0) (Func.mk ByteArray.empty false [] 0 [])).blocks v6.toNat v7.toNat).to_ (rdI (h1.getD (0) (Func.mk ByteArray.empty false [] 0 [])).blocks v6.toNat v7.toNat).sym_ (rdI (h1.getD (0) (Func.mk ByteArray.empty false [] 0 [])).blocks v6.toNat v7.toNat).num (rdI (h1.getD (0) (Func.mk ByteArray.empty false [] 0 [])).blocks v6.toNat v7.toNat).args (rdI (h1.getD (0) (Func.mk ByteArray.empty false [] 0 [])).blocks v6.toNat v7.toNat).into]) ([]))
 else none
 else none
 else none
 else none
 else
 J k130_j2 (s130_j2 m f v6 h0 h1 h2)
 else none
 else none:=by kernel_rfl
theorem e130_j0 (J m f):run tb C130 U130 J (R130 m f) 4096 k130_j0 (s130_j0 m f)=
 some (.v (.bool true),[.dead, .dead]):=by kernel_rfl
theorem e130_l4 (J m f v6 v7 v10 h0 h1 h2 h3 h4):run tb C130 U130 J (R130 m f) 4096 k130_l4 (s130_l4 m f v6 v7 v10 h0 h1 h2 h3 h4)=
 if decide (v10<(↑(h3.getD (0) (Ins.mk 0 0 0 0 0 [] [])).args.length:Int))=true then
 if 0≤v10 then
 if v10<(↑(h3.getD (0) (Ins.mk 0 0 0 0 0 [] [])).args.length:Int) then
 if 0≤(h3.getD (0) (Ins.mk 0 0 0 0 0 [] [])).args.getD v10.toNat 0 then
 if (h3.getD (0) (Ins.mk 0 0 0 0 0 [] [])).args.getD v10.toNat 0<(↑h2.length:Int) then
 if h4.length+[h2.getD (0+Int.toNat ((h3.getD (0) (Ins.mk 0 0 0 0 0 [] [])).args.getD v10.toNat 0)) 0].length+1≤549755813888∧(h4.length+[h2.getD (0+Int.toNat ((h3.getD (0) (Ins.mk 0 0 0 0 0 [] [])).args.getD v10.toNat 0)) 0].length+1)*8≤549755813888 then
 J k130_l4 (s130_l4 m f v6 v7 (IntKind.i64.wrap (v10+1)) h0 h1 h2 h3 (h4++[h2.getD (0+Int.toNat ((h3.getD (0) (Ins.mk 0 0 0 0 0 [] [])).args.getD v10.toNat 0)) 0]))
 else none
 else none
 else none
 else none
 else none
 else
 J k130_j4 (s130_j4 m f v6 v7 h0 h1 h2 h3 h4):=by kernel_rfl
theorem e130_j2 (J m f v6 h0 h1 h2):run tb C130 U130 J (R130 m f) 4096 k130_j2 (s130_j2 m f v6 h0 h1 h2)=
 J k130_j1 (s130_j1 m f v6 h0 h1 h2):=by kernel_rfl
theorem e130_j4 (J m f v6 v7 h0 h1 h2 h3 h4):run tb C130 U130 J (R130 m f) 4096 k130_j4 (s130_j4 m f v6 v7 h0 h1 h2 h3 h4)=
 if fitPre (Module.mk (h0.getD (0) (Module.mk [] [] [] [])).externs (h0.getD (0) (Module.mk [] [] [] [])).globals (h0.getD (0) (Module.mk [] [] [] [])).tables (h0.getD (0) (Module.mk [] [] [] [])).funcs) (Ins.mk (h3.getD (0) (Ins.mk 0 0 0 0 0 [] [])).op (h3.getD (0) (Ins.mk 0 0 0 0 0 [] [])).type_ (h3.getD (0) (Ins.mk 0 0 0 0 0 [] [])).to_ (h3.getD (0) (Ins.mk 0 0 0 0 0 [] [])).sym_ (h3.getD (0) (Ins.mk 0 0 0 0 0 [] [])).num (h3.getD (0) (Ins.mk 0 0 0 0 0 [] [])).args (h3.getD (0) (Ins.mk 0 0 0 0 0 [] [])).into) h4 then
 if (!fitsB (Module.mk (h0.getD (0) (Module.mk [] [] [] [])).externs (h0.getD (0) (Module.mk [] [] [] [])).globals (h0.getD (0) (Module.mk [] [] [] [])).tables (h0.getD (0) (Module.mk [] [] [] [])).funcs) (Func.mk (h1.getD (0) (Func.mk ByteArray.empty false [] 0 [])).name (h1.getD (0) (Func.mk ByteArray.empty false [] 0 [])).out (h1.getD (0) (Func.mk ByteArray.empty false [] 0 [])).params (h1.getD (0) (Func.mk ByteArray.empty false [] 0 [])).result (h1.getD (0) (Func.mk ByteArray.empty false [] 0 [])).blocks) (Ins.mk (h3.getD (0) (Ins.mk 0 0 0 0 0 [] [])).op (h3.getD (0) (Ins.mk 0 0 0 0 0 [] [])).type_ (h3.getD (0) (Ins.mk 0 0 0 0 0 [] [])).to_ (h3.getD (0) (Ins.mk 0 0 0 0 0 [] [])).sym_ (h3.getD (0) (Ins.mk 0 0 0 0 0 [] [])).num (h3.getD (0) (Ins.mk 0 0 0 0 0 [] [])).args (h3.getD (0) (Ins.mk 0 0 0 0 0 [] [])).into) h4)=true then
 some (.v (.bool false),[.dead, .dead])
 else
 J k130_j3 (s130_j3 m f v6 v7 h0 h1 h2)
 else none:=by kernel_rfl
theorem e130_j1 (J m f v6 h0 h1 h2):run tb C130 U130 J (R130 m f) 4096 k130_j1 (s130_j1 m f v6 h0 h1 h2)=
 J k130_l0 (s130_l0 m f (IntKind.i64.wrap (v6+1)) h0 h1 h2):=by kernel_rfl
theorem e130_j3 (J m f v6 v7 h0 h1 h2):run tb C130 U130 J (R130 m f) 4096 k130_j3 (s130_j3 m f v6 v7 h0 h1 h2)=
 J k130_l2 (s130_l2 m f v6 (IntKind.i64.wrap (v7+1)) h0 h1 h2):=by kernel_rfl

theorem in130:Entered 130:=⟨Try.f130,b130,by kernel_rfl,by kernel_rfl,by kernel_rfl⟩
theorem fn130 (m:Ev.Module) (f:Ev.Func) {res:AV Ty} {outs:List (AV Ty)} (h:Ends C130 U130 (R130 m f) [.code b130] ⟨slotsA (a130 m f) 0 0,heapA (a130 m f)⟩ (some (res,outs))):CallOk tb Try.prog 130 (a130 m f) res outs:=by
 obtain ⟨n0,hn⟩:=h
 exact fn_ok (C:=C130) (U:=U130) (n:=0+n0) (q:= .keep) tbOk good (fun f mu S h=>by
  unfold C130 at h
  simp only at h
  split at h
  ·cases h;exact ⟨in30,S30_ok⟩
  ·cases h;exact ⟨in155,S155_ok⟩
  ·cases h) mixed (fn:=Try.f130) (body:=b130) (by kernel_rfl) (by kernel_rfl) rfl rfl (by show 2≤64;omega) (hn 0)
section
variable {m:Ev.Module} {f:Ev.Func}
theorem TypesC.a {b k j:Nat} {x:Ev.Ins} {t:List Int} (hl:x.args.length≤1000) (hj:j<x.args.length) (ha:1≤x.args.getD j 0∧x.args.getD j 0<t.length):Goes C130 U130 (R130 m f) k130_l4 (s130_l4 m f b k j [m] [f] t [x] (gotL t (x.args.take j))) k130_l4 (s130_l4 m f b k (j+1:Nat) [m] [f] t [x] (gotL t (x.args.take (j+1)))):= .step fun J=>by
 have ww:IntKind.i64.wrap ((j:Int)+1)=((j+1:Nat):Int):=wrap_nat (by omega) (by omega)
 have e1:gotL t (x.args.take (j+1))=gotL t (x.args.take j)++[t.getD (x.args.getD j 0).toNat 0]:=by
  unfold gotL
  rw [take_step (d:=0) hj,List.map_append]
  rfl
 have e2:(gotL t (x.args.take j)).length=j:=by
  unfold gotL
  rw [List.length_map,List.length_take]
  omega
 obtain ⟨h1,h2⟩:=ha
 rw [e130_l4,e1]
 simp only [List.getD_cons_zero,Int.toNat_natCast,ww,Nat.zero_add]
 generalize t.getD (x.args.getD j 0).toNat 0=y
 have c1:(gotL t (x.args.take j)).length+[y].length+1≤549755813888∧((gotL t (x.args.take j)).length+[y].length+1)*8≤549755813888:=by
  rw [List.length_singleton]
  omega
 simp (disch:=first|omega|assumption|(rw [dT];omega)|(rw [dF];omega)) only [↓iP,↓iN,iT,iF,wrap_up,tN,Nat.zero_add,c1,and_self]
theorem TypesC.k (h:typesPre m f) {b k:Nat} (hb:b<f.blocks.length) (hk:k<(f.blocks.getD b (Block.mk [])).ins.length):Way C130 U130 (R130 m f) (rD2 false) k130_l2 (s130_l2 m f b k [m] [f] (typesOf f)) k130_l2 (s130_l2 m f b (k+1:Nat) [m] [f] (typesOf f)) True:=by
 obtain ⟨hf,hq,hs,ha⟩:=h
 have h1:=hf.b hb
 have ww:IntKind.i64.wrap ((k:Int)+1)=((k+1:Nat):Int):=wrap_nat (by omega) (by omega)
 have hx:=((hf.2.2 _ (getD_mem (d:=(Block.mk [])) hb)).2 _ (getD_mem (d:=(Ins.mk 0 0 0 0 0 [] [])) hk)).1
 have hp:fitPre m ((f.blocks.getD b (Block.mk [])).ins.getD k (Ins.mk 0 0 0 0 0 [] [])) (gotL (typesOf f) ((f.blocks.getD b (Block.mk [])).ins.getD k (Ins.mk 0 0 0 0 0 [] [])).args):=⟨hq b hb k hk,hs b hb k hk,by unfold gotL;rw [List.length_map],by unfold gotL;rw [List.length_map];exact hx⟩
 have haj:=ha b hb k hk
 refine Goes.way (k':=k130_l4) (s':=s130_l4 m f b k (0:Nat) [m] [f] (typesOf f) [(f.blocks.getD b (Block.mk [])).ins.getD k (Ins.mk 0 0 0 0 0 [] [])] []) (.step fun J=> ?_) ?_
 ·rw [e130_l2]
  simp only [List.getD_cons_zero,Int.toNat_natCast,rdI]
  simp (disch:=first|omega|assumption|(rw [dT];omega)|(rw [dF];omega)) only [↓iP,↓iN,iT,iF,wrap_up,tN,Nat.zero_add]
  rfl
 generalize (f.blocks.getD b (Block.mk [])).ins.getD k (Ins.mk 0 0 0 0 0 [] [])=x at*
 refine Goes.way (Goes.upto (fun j=>s130_l4 m f b k j [m] [f] (typesOf f) [x] (gotL (typesOf f) (x.args.take j))) _ (fun j hj=>TypesC.a hx hj (haj j hj)) _ (Nat.le_refl _)) ?_
 rw [List.take_length]
 refine Goes.way (k':=k130_j4) (s':=s130_j4 m f b k [m] [f] (typesOf f) [x] (gotL (typesOf f) x.args)) (.step fun J=> ?_) ?_
 ·rw [e130_l4]
  simp only [List.getD_cons_zero]
  simp (disch:=first|omega|assumption|(rw [dT];omega)|(rw [dF];omega)) only [↓iP,↓iN,iT,iF,wrap_up,tN,Nat.zero_add]
 refine (Way.of (k':=k130_j3) (s':=s130_j3 m f b k [m] [f] (typesOf f)) (fun J=>e130_j4 J m f b k [m] [f] (typesOf f) [x] (gotL (typesOf f) x.args)) ?_).then fun _=> .step fun J=>by rw [e130_j3,ww]
 simp only [List.getD_cons_zero]
 repeat' first|refine tree_qt (fun _=> ?_) (fun _=> ?_)|refine tree_qf (fun _=> ?_) (fun _=> ?_)|refine tree_nt (fun _=> ?_) (fun _=> ?_)|refine tree_nf (fun _=> ?_) (fun _=> ?_)|refine tree_et (fun _=> ?_) (fun _=> ?_)|refine tree_ef (fun _=> ?_) (fun _=> ?_)|refine tree_dt (fun _=> ?_) (fun _=> ?_)|refine tree_df (fun _=> ?_) (fun _=> ?_)|refine tree_bt (fun _=> ?_) (fun _=> ?_)|refine tree_bf (fun _=> ?_) (fun _=> ?_)|refine tree_ite (fun _=> ?_) (fun _=> ?_)
 all_goals first|exact WayT.no (fun J=>rfl)|exact WayT.yes (fun J=>rfl) trivial|exact absurd hp ‹_›
theorem TypesC.b (h:typesPre m f) {b:Nat} (hb:b<f.blocks.length):Way C130 U130 (R130 m f) (rD2 false) k130_l0 (s130_l0 m f b [m] [f] (typesOf f)) k130_l0 (s130_l0 m f (b+1:Nat) [m] [f] (typesOf f)) True:=by
 have h0:=h.1.2.1
 have ww:IntKind.i64.wrap ((b:Int)+1)=((b+1:Nat):Int):=wrap_nat (by omega) (by omega)
 refine Goes.way (k':=k130_l2) (s':=s130_l2 m f b (0:Nat) [m] [f] (typesOf f)) (.step fun J=> ?_) ?_
 ·rw [e130_l0]
  simp only [List.getD_cons_zero]
  simp (disch:=first|omega|assumption|(rw [dT];omega)|(rw [dF];omega)) only [↓iP,↓iN,iT,iF,wrap_up,tN,Nat.zero_add]
  rfl
 refine ((Way.upto (fun k=>s130_l2 m f b k [m] [f] (typesOf f)) _ (fun _=>True) (fun k hk _=>TypesC.k h hb hk) _ (Nat.le_refl _)).mono fun _=>trivial).then fun _=> ?_
 refine Goes.trans (k':=k130_j2) (s':=s130_j2 m f b [m] [f] (typesOf f)) (.step fun J=> ?_) (.trans (.step fun J=>e130_j2 ..) (.step fun J=> ?_))
 ·rw [e130_l2]
  simp only [List.getD_cons_zero,Int.toNat_natCast]
  simp (disch:=first|omega|assumption|(rw [dT];omega)|(rw [dF];omega)) only [↓iP,↓iN,iT,iF,wrap_up,tN,Nat.zero_add]
 ·rw [e130_j1,ww]
theorem typesC_ok (h:typesPre m f): ∃b,Tells 130 (a130 m f) [.dead, .dead] True b:=by
 have hf:=h.1
 have e0:(Func.mk f.name f.out f.params f.result f.blocks)=f:=rfl
 have:Says C130 U130 (R130 m f) rD2 [.code b130] ⟨slotsA (a130 m f) 0 0,heapA (a130 m f)⟩ True:=by
  refine Goes.says (k':=k130_l0) (s':=s130_l0 m f (0:Nat) [m] [f] (typesOf f)) (.step fun J=> ?_) ?_
  ·rw [e130,e0]
   simp (disch:=first|omega|assumption|(rw [dT];omega)|(rw [dF];omega)) only [↓iP,↓iN,iT,iF,wrap_up,tN,Nat.zero_add,hf]
   rfl
  refine (Way.says (Q':=True) ((Way.upto (fun b=>s130_l0 m f b [m] [f] (typesOf f)) _ (fun _=>True) (fun b hb _=>TypesC.b h hb) _ (Nat.le_refl _)).mono fun _=>trivial) fun _=> ?_).mono fun _=>trivial
  refine Goes.says (k':=k130_j0) (s':=s130_j0 m f) (.step fun J=> ?_) (.yes (.step fun J=>e130_j0 ..) trivial)
  rw [e130_l0]
  simp only [List.getD_cons_zero]
  simp (disch:=first|omega|assumption|(rw [dT];omega)|(rw [dF];omega)) only [↓iP,↓iN,iT,iF,wrap_up,tN,Nat.zero_add]
 obtain ⟨b,h1,h2⟩:=this
 exact ⟨b,fn130 m f h1,h2⟩
end
noncomputable def typesCB (m:Ev.Module) (f:Ev.Func):Bool:=told 130 (a130 m f) [.dead, .dead] True
noncomputable def S130:List (AV Ty)→T (AV Ty×List (AV Ty))
 |[.agg x, .agg y]=>match cod27.dec false x,cod33.dec false y with
  |some m,some f=> .ite (typesPre m f) (Classical.propDecidable _) (.ret (.v (.bool (typesCB m f)),[.dead, .dead])) .fail
  |_,_=> .fail
 |_=> .fail
theorem S130_ok (l:List (AV Ty)) (r:AV Ty) (outs:List (AV Ty)) (h:(S130 l).val=some (r,outs)):CallOk tb Try.prog 130 l r outs:=by
 unfold S130 at h
 split at h
 ·rename_i x y
  split at h
  ·rename_i m f e1 e2
   rcases ite_val h with ⟨e,h⟩|⟨_,h⟩
   ·cases h
    have h1:=cod27_ok.dec false x m e1
    have h2:=cod33_ok.dec false y f e2
    subst h1 h2
    exact (told_ok (typesC_ok e)).1
   ·cases h
  ·cases h
 ·cases h
noncomputable def limitsB (m:Ev.Module):Bool:=told 124 (a124 m) [.dead] (LimitsQ m)
theorem limitsB_ok (m:Ev.Module) (h:okM m):CallOk tb Try.prog 124 (a124 m) (.v (.bool (limitsB m))) [.dead]:=(told_ok (limits_ok m h)).1
noncomputable def formsB (m:Ev.Module):Bool:=told 125 (a125 m) [.dead] (FormsQ m)
theorem formsB_ok (m:Ev.Module) (h:okM m):CallOk tb Try.prog 125 (a125 m) (.v (.bool (formsB m))) [.dead]:=(told_ok (forms_ok m h)).1
noncomputable def namesB (m:Ev.Module):Bool:=told 126 (a126 m) [.dead] True
theorem namesB_ok (m:Ev.Module) (h:okM m):CallOk tb Try.prog 126 (a126 m) (.v (.bool (namesB m))) [.dead]:=(told_ok (names_ok m h)).1
noncomputable def symsB (m:Ev.Module):Bool:=told 127 (a127 m) [.dead] (SymsQ m)
theorem symsB_ok (m:Ev.Module) (h:okM m):CallOk tb Try.prog 127 (a127 m) (.v (.bool (symsB m))) [.dead]:=(told_ok (syms_ok m h)).1
noncomputable def S124:List (AV Ty)→T (AV Ty×List (AV Ty))
 |[.agg x]=>match cod27.dec false x with
  |some m=> .ite (okM m) (okM.dec m) (.ret (.v (.bool (limitsB m)),[.dead])) .fail
  |none=> .fail
 |_=> .fail
theorem S124_ok (l:List (AV Ty)) (r:AV Ty) (outs:List (AV Ty)) (h:(S124 l).val=some (r,outs)):CallOk tb Try.prog 124 l r outs:=by
 unfold S124 at h
 split at h
 ·rename_i x
  split at h
  ·rename_i m e1
   rcases ite_val h with ⟨e,h⟩|⟨_,h⟩
   ·cases h
    have h1:=cod27_ok.dec false x m e1
    subst h1
    exact limitsB_ok m e
   ·cases h
  ·cases h
 ·cases h
noncomputable def S125:List (AV Ty)→T (AV Ty×List (AV Ty))
 |[.agg x]=>match cod27.dec false x with
  |some m=> .ite (okM m) (okM.dec m) (.ret (.v (.bool (formsB m)),[.dead])) .fail
  |none=> .fail
 |_=> .fail
theorem S125_ok (l:List (AV Ty)) (r:AV Ty) (outs:List (AV Ty)) (h:(S125 l).val=some (r,outs)):CallOk tb Try.prog 125 l r outs:=by
 unfold S125 at h
 split at h
 ·rename_i x
  split at h
  ·rename_i m e1
   rcases ite_val h with ⟨e,h⟩|⟨_,h⟩
   ·cases h
    have h1:=cod27_ok.dec false x m e1
    subst h1
    exact formsB_ok m e
   ·cases h
  ·cases h
 ·cases h
noncomputable def S126:List (AV Ty)→T (AV Ty×List (AV Ty))
 |[.agg x]=>match cod27.dec false x with
  |some m=> .ite (okM m) (okM.dec m) (.ret (.v (.bool (namesB m)),[.dead])) .fail
  |none=> .fail
 |_=> .fail
theorem S126_ok (l:List (AV Ty)) (r:AV Ty) (outs:List (AV Ty)) (h:(S126 l).val=some (r,outs)):CallOk tb Try.prog 126 l r outs:=by
 unfold S126 at h
 split at h
 ·rename_i x
  split at h
  ·rename_i m e1
   rcases ite_val h with ⟨e,h⟩|⟨_,h⟩
   ·cases h
    have h1:=cod27_ok.dec false x m e1
    subst h1
    exact namesB_ok m e
   ·cases h
  ·cases h
 ·cases h
noncomputable def S127:List (AV Ty)→T (AV Ty×List (AV Ty))
 |[.agg x]=>match cod27.dec false x with
  |some m=> .ite (okM m) (okM.dec m) (.ret (.v (.bool (symsB m)),[.dead])) .fail
  |none=> .fail
 |_=> .fail
theorem S127_ok (l:List (AV Ty)) (r:AV Ty) (outs:List (AV Ty)) (h:(S127 l).val=some (r,outs)):CallOk tb Try.prog 127 l r outs:=by
 unfold S127 at h
 split at h
 ·rename_i x
  split at h
  ·rename_i m e1
   rcases ite_val h with ⟨e,h⟩|⟨_,h⟩
   ·cases h
    have h1:=cod27_ok.dec false x m e1
    subst h1
    exact symsB_ok m e
   ·cases h
  ·cases h
 ·cases h
end Go.Proofs.Ytggibjbcbicpjaa.Ev
namespace Go.Proofs.Ytggibjbcbicpjaa.Ev
open Go
set_option linter.unusedVariables false
set_option linter.unusedSimpArgs false
abbrev rC (e:Int):EvR:=some (.v (.int .i64 e),[.dead])
section
variable {C:Cfg Ty} {U:Cuts} {Rt:St Ty→EvR} {k k':List Item} {s s':St Ty} {Q Q':Prop} {F:Jt→EvR} {e:Int}
def AnsC (C:Cfg Ty) (U:Cuts) (Rt:St Ty→EvR) (k:List Item) (s:St Ty) (Q:Prop):Prop:= ∃e,Ends C U Rt k s (rC e)∧(e=0→Q)
def AnsF (C:Cfg Ty) (U:Cuts) (Rt:St Ty→EvR) (Q:Prop) (F:Jt→EvR):Prop:=(∃e,e≠0∧ ∀J,F J=rC e)∨ ∃k' s',(∀J,F J=J k' s')∧AnsC C U Rt k' s' Q
theorem AnsC.of (h: ∀J:Jt,run tb C U J Rt 4096 k s=F J) (g:AnsF C U Rt Q F):AnsC C U Rt k s Q:=by
 rcases g with ⟨e,g1,g2⟩|⟨k',s',g1,e,g2,g3⟩
 ·exact ⟨e, .step fun J=>(h J).trans (g2 J),fun h=>absurd h g1⟩
 ·exact ⟨e,(Goes.step fun J=>(h J).trans (g1 J)).ends g2,g3⟩
theorem Way.ansC (h:Way C U Rt (rC e) k s k' s' Q) (he:e≠0) (g:Q→AnsC C U Rt k' s' Q'):AnsC C U Rt k s Q':=by
 rcases h with h|⟨q,h⟩
 ·exact ⟨e,h,fun h=>absurd h he⟩
 ·obtain ⟨e,g1,g2⟩:=g q
  exact ⟨e,h.ends g1,g2⟩
theorem Goes.ansC (h:Goes C U Rt k s k' s') (g:AnsC C U Rt k' s' Q):AnsC C U Rt k s Q:=by
 obtain ⟨e,g1,g2⟩:=g
 exact ⟨e,h.ends g1,g2⟩
end
def CheckQ (m:Ev.Module):Prop:=LimitsQ m∧FormsQ m∧SymsQ m∧ ∀i,i<m.funcs.length→FlowQ (m.funcs.getD i (Func.mk ByteArray.empty false [] 0 []))∧ToQ (m.funcs.getD i (Func.mk ByteArray.empty false [] 0 []))∧ArgQ (m.funcs.getD i (Func.mk ByteArray.empty false [] 0 []))
noncomputable def b74:Code:=bodyOf Try.f74
noncomputable def C74:Cfg Ty:=⟨fun
 |124=>some ([],S124)
 |125=>some ([],S125)
 |126=>some ([],S126)
 |127=>some ([],S127)
 |128=>some ([],S128)
 |129=>some ([],S129)
 |130=>some ([],S130)
 |_=>none,fun _=>false,61,0⟩
def U74:Cuts:=⟨fun
 |0=>some [(1,none)]
 |2=>some [(1,none)]
 |4=>some []
 |_=>none,fun
 |0=>some [(1,none),(3,none)]
 |2=>some [(1,none),(4,none)]
 |4=>some [(1,none),(5,none)]
 |_=>none,fun _=>none⟩
noncomputable def k74_j0:List Item:=[.code (sndC (sndC (sndC (sndC (sndC (sndC b74))))))]
noncomputable def k74_l0:List Item:=[.code (inC (inC (sndC (fstC (sndC (sndC (sndC (sndC (sndC b74))))))))), .inLoop (inC (inC (sndC (fstC (sndC (sndC (sndC (sndC (sndC b74))))))))), .inBlock 0, .code (sndC (sndC (sndC (sndC (sndC (sndC b74))))))]
noncomputable def k74_j2:List Item:=[.code (sndC (sndC (sndC (sndC (sndC (sndC (sndC b74)))))))]
noncomputable def k74_l2:List Item:=[.code (inC (inC (sndC (fstC (sndC (sndC (sndC (sndC (sndC (sndC b74)))))))))), .inLoop (inC (inC (sndC (fstC (sndC (sndC (sndC (sndC (sndC (sndC b74)))))))))), .inBlock 2, .code (sndC (sndC (sndC (sndC (sndC (sndC (sndC b74)))))))]
noncomputable def k74_j4:List Item:=[.code (sndC (sndC (sndC (sndC (sndC (sndC (sndC (sndC b74))))))))]
noncomputable def k74_l4:List Item:=[.code (inC (inC (sndC (fstC (sndC (sndC (sndC (sndC (sndC (sndC (sndC b74))))))))))), .inLoop (inC (inC (sndC (fstC (sndC (sndC (sndC (sndC (sndC (sndC (sndC b74))))))))))), .inBlock 4, .code (sndC (sndC (sndC (sndC (sndC (sndC (sndC (sndC b74))))))))]
def a74 (m:Module):List (AV Ty):=[.agg [.sl false (91:Nat) m.externs, .sl false (94:Nat) m.globals, .sl false (96:Nat) m.tables, .sl false (33:Nat) m.funcs]]
noncomputable def R74 (m:Module):St Ty→EvR:=resT tb C74 Try.f74.results.toList .keep (a74 m)
def s74_l0 (m:Module) (v3:Int) (h0:List Module):St Ty:=St.mk [(1, .ptr (0) [] (0) (0)),(3, .v (.int .i64 v3))] [some (Root.mk (27) false h0)]
def s74_j0 (m:Module) (h0:List Module):St Ty:=St.mk [(1, .ptr (0) [] (0) (0))] [some (Root.mk (27) false h0)]
def s74_l2 (m:Module) (v4:Int) (h0:List Module):St Ty:=St.mk [(1, .ptr (0) [] (0) (0)),(4, .v (.int .i64 v4))] [some (Root.mk (27) false h0)]
def s74_j2 (m:Module) (h0:List Module):St Ty:=St.mk [(1, .ptr (0) [] (0) (0))] [some (Root.mk (27) false h0)]
def s74_l4 (m:Module) (v5:Int) (h0:List Module):St Ty:=St.mk [(1, .ptr (0) [] (0) (0)),(5, .v (.int .i64 v5))] [some (Root.mk (27) false h0)]
def s74_j4 (m:Module):St Ty:=St.mk [] []
theorem e74 (J m):run tb C74 U74 J (R74 m) 4096 [.code b74] ⟨slotsA (a74 m) 0 0,heapA (a74 m)⟩=
 if okM (Module.mk m.externs m.globals m.tables m.funcs) then
 if (!limitsB (Module.mk m.externs m.globals m.tables m.funcs))=true then
 some (.v (.int .i64 2),[.dead])
 else
 if okM (Module.mk m.externs m.globals m.tables m.funcs) then
 if (!formsB (Module.mk m.externs m.globals m.tables m.funcs))=true then
 some (.v (.int .i64 1),[.dead])
 else
 if okM (Module.mk m.externs m.globals m.tables m.funcs) then
 if (!namesB (Module.mk m.externs m.globals m.tables m.funcs))=true then
 some (.v (.int .i64 3),[.dead])
 else
 if okM (Module.mk m.externs m.globals m.tables m.funcs) then
 if (!symsB (Module.mk m.externs m.globals m.tables m.funcs))=true then
 some (.v (.int .i64 4),[.dead])
 else
 J k74_l0 (s74_l0 m 0 ([Module.mk m.externs m.globals m.tables m.funcs]))
 else none
 else none
 else none
 else none:=by kernel_rfl
theorem e74_l0 (J m v3 h0):run tb C74 U74 J (R74 m) 4096 k74_l0 (s74_l0 m v3 h0)=
 if decide (v3<(↑(h0.getD (0) (Module.mk [] [] [] [])).funcs.length:Int))=true then
 if 0≤v3 then
 if v3<(↑(h0.getD (0) (Module.mk [] [] [] [])).funcs.length:Int) then
 if flowPre (Func.mk ((h0.getD (0) (Module.mk [] [] [] [])).funcs.getD v3.toNat (Func.mk ByteArray.empty false [] 0 [])).name ((h0.getD (0) (Module.mk [] [] [] [])).funcs.getD v3.toNat (Func.mk ByteArray.empty false [] 0 [])).out ((h0.getD (0) (Module.mk [] [] [] [])).funcs.getD v3.toNat (Func.mk ByteArray.empty false [] 0 [])).params ((h0.getD (0) (Module.mk [] [] [] [])).funcs.getD v3.toNat (Func.mk ByteArray.empty false [] 0 [])).result ((h0.getD (0) (Module.mk [] [] [] [])).funcs.getD v3.toNat (Func.mk ByteArray.empty false [] 0 [])).blocks) then
 if (!flowsB (Func.mk ((h0.getD (0) (Module.mk [] [] [] [])).funcs.getD v3.toNat (Func.mk ByteArray.empty false [] 0 [])).name ((h0.getD (0) (Module.mk [] [] [] [])).funcs.getD v3.toNat (Func.mk ByteArray.empty false [] 0 [])).out ((h0.getD (0) (Module.mk [] [] [] [])).funcs.getD v3.toNat (Func.mk ByteArray.empty false [] 0 [])).params ((h0.getD (0) (Module.mk [] [] [] [])).funcs.getD v3.toNat (Func.mk ByteArray.empty false [] 0 [])).result ((h0.getD (0) (Module.mk [] [] [] [])).funcs.getD v3.toNat (Func.mk ByteArray.empty false [] 0 [])).blocks))=true then
 some (.v (.int .i64 5),[.dead])
 else
 J k74_l0 (s74_l0 m (IntKind.i64.wrap (v3+1)) h0)
 else none
 else none
 else none
 else
 J k74_j0 (s74_j0 m h0):=by kernel_rfl
theorem e74_j0 (J m h0):run tb C74 U74 J (R74 m) 4096 k74_j0 (s74_j0 m h0)=
 J k74_l2 (s74_l2 m 0 h0):=by kernel_rfl
theorem e74_l2 (J m v4 h0):run tb C74 U74 J (R74 m) 4096 k74_l2 (s74_l2 m v4 h0)=
 if decide (v4<(↑(h0.getD (0) (Module.mk [] [] [] [])).funcs.length:Int))=true then
 if 0≤v4 then
 if v4<(↑(h0.getD (0) (Module.mk [] [] [] [])).funcs.length:Int) then
 if usesPre (Func.mk ((h0.getD (0) (Module.mk [] [] [] [])).funcs.getD v4.toNat (Func.mk ByteArray.empty false [] 0 [])).name ((h0.getD (0) (Module.mk [] [] [] [])).funcs.getD v4.toNat (Func.mk ByteArray.empty false [] 0 [])).out ((h0.getD (0) (Module.mk [] [] [] [])).funcs.getD v4.toNat (Func.mk ByteArray.empty false [] 0 [])).params ((h0.getD (0) (Module.mk [] [] [] [])).funcs.getD v4.toNat (Func.mk ByteArray.empty false [] 0 [])).result ((h0.getD (0) (Module.mk [] [] [] [])).funcs.getD v4.toNat (Func.mk ByteArray.empty false [] 0 [])).blocks) then
 if (!usesB (Func.mk ((h0.getD (0) (Module.mk [] [] [] [])).funcs.getD v4.toNat (Func.mk ByteArray.empty false [] 0 [])).name ((h0.getD (0) (Module.mk [] [] [] [])).funcs.getD v4.toNat (Func.mk ByteArray.empty false [] 0 [])).out ((h0.getD (0) (Module.mk [] [] [] [])).funcs.getD v4.toNat (Func.mk ByteArray.empty false [] 0 [])).params ((h0.getD (0) (Module.mk [] [] [] [])).funcs.getD v4.toNat (Func.mk ByteArray.empty false [] 0 [])).result ((h0.getD (0) (Module.mk [] [] [] [])).funcs.getD v4.toNat (Func.mk ByteArray.empty false [] 0 [])).blocks))=true then
 some (.v (.int .i64 6),[.dead])
 else
 J k74_l2 (s74_l2 m (IntKind.i64.wrap (v4+1)) h0)
 else none
 else none
 else none
 else
 J k74_j2 (s74_j2 m h0):=by kernel_rfl
theorem e74_j2 (J m h0):run tb C74 U74 J (R74 m) 4096 k74_j2 (s74_j2 m h0)=
 J k74_l4 (s74_l4 m 0 h0):=by kernel_rfl
theorem e74_l4 (J m v5 h0):run tb C74 U74 J (R74 m) 4096 k74_l4 (s74_l4 m v5 h0)=
 if decide (v5<(↑(h0.getD (0) (Module.mk [] [] [] [])).funcs.length:Int))=true then
 if 0≤v5 then
 if v5<(↑(h0.getD (0) (Module.mk [] [] [] [])).funcs.length:Int) then
 if typesPre (Module.mk (h0.getD (0) (Module.mk [] [] [] [])).externs (h0.getD (0) (Module.mk [] [] [] [])).globals (h0.getD (0) (Module.mk [] [] [] [])).tables (h0.getD (0) (Module.mk [] [] [] [])).funcs) (Func.mk ((h0.getD (0) (Module.mk [] [] [] [])).funcs.getD v5.toNat (Func.mk ByteArray.empty false [] 0 [])).name ((h0.getD (0) (Module.mk [] [] [] [])).funcs.getD v5.toNat (Func.mk ByteArray.empty false [] 0 [])).out ((h0.getD (0) (Module.mk [] [] [] [])).funcs.getD v5.toNat (Func.mk ByteArray.empty false [] 0 [])).params ((h0.getD (0) (Module.mk [] [] [] [])).funcs.getD v5.toNat (Func.mk ByteArray.empty false [] 0 [])).result ((h0.getD (0) (Module.mk [] [] [] [])).funcs.getD v5.toNat (Func.mk ByteArray.empty false [] 0 [])).blocks) then
 if (!typesCB (Module.mk (h0.getD (0) (Module.mk [] [] [] [])).externs (h0.getD (0) (Module.mk [] [] [] [])).globals (h0.getD (0) (Module.mk [] [] [] [])).tables (h0.getD (0) (Module.mk [] [] [] [])).funcs) (Func.mk ((h0.getD (0) (Module.mk [] [] [] [])).funcs.getD v5.toNat (Func.mk ByteArray.empty false [] 0 [])).name ((h0.getD (0) (Module.mk [] [] [] [])).funcs.getD v5.toNat (Func.mk ByteArray.empty false [] 0 [])).out ((h0.getD (0) (Module.mk [] [] [] [])).funcs.getD v5.toNat (Func.mk ByteArray.empty false [] 0 [])).params ((h0.getD (0) (Module.mk [] [] [] [])).funcs.getD v5.toNat (Func.mk ByteArray.empty false [] 0 [])).result ((h0.getD (0) (Module.mk [] [] [] [])).funcs.getD v5.toNat (Func.mk ByteArray.empty false [] 0 [])).blocks))=true then
 some (.v (.int .i64 7),[.dead])
 else
 J k74_l4 (s74_l4 m (IntKind.i64.wrap (v5+1)) h0)
 else none
 else none
 else none
 else
 J k74_j4 (s74_j4 m):=by kernel_rfl
theorem e74_j4 (J m):run tb C74 U74 J (R74 m) 4096 k74_j4 (s74_j4 m)=
 some (.v (.int .i64 0),[.dead]):=by kernel_rfl

theorem in74:Entered 74:=⟨Try.f74,b74,by kernel_rfl,by kernel_rfl,by kernel_rfl⟩
theorem fn74 (m:Ev.Module) {res:AV Ty} {outs:List (AV Ty)} (h:Ends C74 U74 (R74 m) [.code b74] ⟨slotsA (a74 m) 0 0,heapA (a74 m)⟩ (some (res,outs))):CallOk tb Try.prog 74 (a74 m) res outs:=by
 obtain ⟨n0,hn⟩:=h
 exact fn_ok (C:=C74) (U:=U74) (n:=0+n0) (q:= .keep) tbOk good (fun f mu S h=>by
  unfold C74 at h
  simp only at h
  split at h
  ·cases h;exact ⟨in124,S124_ok⟩
  ·cases h;exact ⟨in125,S125_ok⟩
  ·cases h;exact ⟨in126,S126_ok⟩
  ·cases h;exact ⟨in127,S127_ok⟩
  ·cases h;exact ⟨in128,S128_ok⟩
  ·cases h;exact ⟨in129,S129_ok⟩
  ·cases h;exact ⟨in130,S130_ok⟩
  ·cases h) mixed (fn:=Try.f74) (body:=b74) (by kernel_rfl) (by kernel_rfl) rfl rfl (by show 1≤61;omega) (hn 0)
section
variable {m:Ev.Module}
theorem Check.f (h:okM m) (hq:FormsQ m) {i:Nat} (hi:i<m.funcs.length):Way C74 U74 (R74 m) (rC 5) k74_l0 (s74_l0 m i [m]) k74_l0 (s74_l0 m (i+1:Nat) [m]) (FlowQ (m.funcs.getD i (Func.mk ByteArray.empty false [] 0 []))):=by
 have hl:=h.1.2.2.2
 have hp:flowPre (m.funcs.getD i (Func.mk ByteArray.empty false [] 0 [])):=⟨h.f hi,hq i hi⟩
 refine Way.of (fun J=>e74_l0 J m i [m]) ?_
 have w:IntKind.i64.wrap ((i:Int)+1)=((i+1:Nat):Int):=wrap_nat (by omega) (by omega)
 simp only [List.getD_cons_zero,Int.toNat_natCast,w]
 repeat' first|refine tree_qt (fun _=> ?_) (fun _=> ?_)|refine tree_qf (fun _=> ?_) (fun _=> ?_)|refine tree_nt (fun _=> ?_) (fun _=> ?_)|refine tree_nf (fun _=> ?_) (fun _=> ?_)|refine tree_et (fun _=> ?_) (fun _=> ?_)|refine tree_ef (fun _=> ?_) (fun _=> ?_)|refine tree_dt (fun _=> ?_) (fun _=> ?_)|refine tree_df (fun _=> ?_) (fun _=> ?_)|refine tree_bt (fun _=> ?_) (fun _=> ?_)|refine tree_bf (fun _=> ?_) (fun _=> ?_)|refine tree_ite (fun _=> ?_) (fun _=> ?_)
 all_goals first|exact WayT.no (fun J=>rfl)|exact WayT.yes (fun J=>rfl) ((told_ok (flows_ok hp)).2 ‹_›)|(exfalso;omega)|exact absurd hp ‹_›
theorem Check.u (h:okM m) (hq:FormsQ m) (hl:LimitsQ m) (hf: ∀i,i<m.funcs.length→FlowQ (m.funcs.getD i (Func.mk ByteArray.empty false [] 0 []))) {i:Nat} (hi:i<m.funcs.length):Way C74 U74 (R74 m) (rC 6) k74_l2 (s74_l2 m i [m]) k74_l2 (s74_l2 m (i+1:Nat) [m]) (ToQ (m.funcs.getD i (Func.mk ByteArray.empty false [] 0 []))∧ArgQ (m.funcs.getD i (Func.mk ByteArray.empty false [] 0 []))):=by
 have h0:=h.1.2.2.2
 have hp:usesPre (m.funcs.getD i (Func.mk ByteArray.empty false [] 0 [])):=⟨⟨h.f hi,hl i hi⟩,hq i hi,hf i hi⟩
 refine Way.of (fun J=>e74_l2 J m i [m]) ?_
 have w:IntKind.i64.wrap ((i:Int)+1)=((i+1:Nat):Int):=wrap_nat (by omega) (by omega)
 simp only [List.getD_cons_zero,Int.toNat_natCast,w]
 repeat' first|refine tree_qt (fun _=> ?_) (fun _=> ?_)|refine tree_qf (fun _=> ?_) (fun _=> ?_)|refine tree_nt (fun _=> ?_) (fun _=> ?_)|refine tree_nf (fun _=> ?_) (fun _=> ?_)|refine tree_et (fun _=> ?_) (fun _=> ?_)|refine tree_ef (fun _=> ?_) (fun _=> ?_)|refine tree_dt (fun _=> ?_) (fun _=> ?_)|refine tree_df (fun _=> ?_) (fun _=> ?_)|refine tree_bt (fun _=> ?_) (fun _=> ?_)|refine tree_bf (fun _=> ?_) (fun _=> ?_)|refine tree_ite (fun _=> ?_) (fun _=> ?_)
 all_goals first|exact WayT.no (fun J=>rfl)|exact WayT.yes (fun J=>rfl) ((told_ok (uses3_ok hp)).2 ‹_›)|(exfalso;omega)|exact absurd hp ‹_›
theorem Check.t (h:okM m) (hq:FormsQ m) (hs:SymsQ m) (hf: ∀i,i<m.funcs.length→ToQ (m.funcs.getD i (Func.mk ByteArray.empty false [] 0 []))∧ArgQ (m.funcs.getD i (Func.mk ByteArray.empty false [] 0 []))) {i:Nat} (hi:i<m.funcs.length):Way C74 U74 (R74 m) (rC 7) k74_l4 (s74_l4 m i [m]) k74_l4 (s74_l4 m (i+1:Nat) [m]) True:=by
 have h0:=h.1.2.2.2
 have hp:typesPre m (m.funcs.getD i (Func.mk ByteArray.empty false [] 0 [])):=⟨h.f hi,hq i hi,hs i hi,(hf i hi).2⟩
 refine Way.of (fun J=>e74_l4 J m i [m]) ?_
 have w:IntKind.i64.wrap ((i:Int)+1)=((i+1:Nat):Int):=wrap_nat (by omega) (by omega)
 simp only [List.getD_cons_zero,Int.toNat_natCast,w]
 repeat' first|refine tree_qt (fun _=> ?_) (fun _=> ?_)|refine tree_qf (fun _=> ?_) (fun _=> ?_)|refine tree_nt (fun _=> ?_) (fun _=> ?_)|refine tree_nf (fun _=> ?_) (fun _=> ?_)|refine tree_et (fun _=> ?_) (fun _=> ?_)|refine tree_ef (fun _=> ?_) (fun _=> ?_)|refine tree_dt (fun _=> ?_) (fun _=> ?_)|refine tree_df (fun _=> ?_) (fun _=> ?_)|refine tree_bt (fun _=> ?_) (fun _=> ?_)|refine tree_bf (fun _=> ?_) (fun _=> ?_)|refine tree_ite (fun _=> ?_) (fun _=> ?_)
 all_goals first|exact WayT.no (fun J=>rfl)|exact WayT.yes (fun J=>rfl) (trivial)|(exfalso;omega)|exact absurd hp ‹_›
theorem check_rest (h:okM m) (hl:LimitsQ m) (hq:FormsQ m) (hs:SymsQ m):AnsC C74 U74 (R74 m) k74_l0 (s74_l0 m 0 [m]) (CheckQ m):=by
 refine Way.ansC (e:=5) (Way.upto (fun i=>s74_l0 m i [m]) _ _ (fun i hi _=>Check.f h hq hi) _ (Nat.le_refl _)) (by decide) fun hf=> ?_
 refine Goes.ansC (k':=k74_l2) (s':=s74_l2 m (0:Nat) [m]) (.trans (k':=k74_j0) (s':=s74_j0 m [m]) (.step fun J=> ?_) (.step fun J=>e74_j0 ..)) ?_
 ·rw [e74_l0]
  simp only [List.getD_cons_zero]
  simp (disch:=first|omega|assumption|(rw [dT];omega)|(rw [dF];omega)) only [↓iP,↓iN,iT,iF,wrap_up,tN,Nat.zero_add]
 refine Way.ansC (e:=6) (Way.upto (fun i=>s74_l2 m i [m]) _ _ (fun i hi _=>Check.u h hq hl hf hi) _ (Nat.le_refl _)) (by decide) fun hu=> ?_
 refine Goes.ansC (k':=k74_l4) (s':=s74_l4 m (0:Nat) [m]) (.trans (k':=k74_j2) (s':=s74_j2 m [m]) (.step fun J=> ?_) (.step fun J=>e74_j2 ..)) ?_
 ·rw [e74_l2]
  simp only [List.getD_cons_zero]
  simp (disch:=first|omega|assumption|(rw [dT];omega)|(rw [dF];omega)) only [↓iP,↓iN,iT,iF,wrap_up,tN,Nat.zero_add]
 refine Way.ansC (e:=7) (Way.upto (fun i=>s74_l4 m i [m]) _ (fun _=>True) (fun i hi _=>Check.t h hq hs hu hi) _ (Nat.le_refl _)) (by decide) fun _=> ?_
 refine ⟨0,Goes.ends (k':=k74_j4) (s':=s74_j4 m) (.step fun J=> ?_) (.step fun J=>e74_j4 ..),fun _=>⟨hl,hq,hs,fun i hi=>⟨hf i hi,hu i hi⟩⟩⟩
 rw [e74_l4]
 simp only [List.getD_cons_zero]
 simp (disch:=first|omega|assumption|(rw [dT];omega)|(rw [dF];omega)) only [↓iP,↓iN,iT,iF,wrap_up,tN,Nat.zero_add]
theorem check_ex (m:Ev.Module) (h:okM m): ∃e,CallOk tb Try.prog 74 (a74 m) (.v (.int .i64 e)) [.dead]∧(e=0→CheckQ m):=by
 have e0:(Module.mk m.externs m.globals m.tables m.funcs)=m:=rfl
 have:AnsC C74 U74 (R74 m) [.code b74] ⟨slotsA (a74 m) 0 0,heapA (a74 m)⟩ (CheckQ m):=by
  refine AnsC.of (fun J=>e74 J m) ?_
  simp only [e0]
  repeat' first|refine tree_qt (fun _=> ?_) (fun _=> ?_)|refine tree_qf (fun _=> ?_) (fun _=> ?_)|refine tree_nt (fun _=> ?_) (fun _=> ?_)|refine tree_nf (fun _=> ?_) (fun _=> ?_)|refine tree_et (fun _=> ?_) (fun _=> ?_)|refine tree_ef (fun _=> ?_) (fun _=> ?_)|refine tree_dt (fun _=> ?_) (fun _=> ?_)|refine tree_df (fun _=> ?_) (fun _=> ?_)|refine tree_bt (fun _=> ?_) (fun _=> ?_)|refine tree_bf (fun _=> ?_) (fun _=> ?_)|refine tree_ite (fun _=> ?_) (fun _=> ?_)
  all_goals first|exact .inl ⟨_,by decide,fun J=>rfl⟩|exact .inr ⟨_,_,fun J=>rfl,check_rest h ((told_ok (limits_ok m h)).2 ‹_›) ((told_ok (forms_ok m h)).2 ‹_›) ((told_ok (syms_ok m h)).2 ‹_›)⟩|exact absurd h ‹_›
 obtain ⟨e,h1,h2⟩:=this
 exact ⟨e,fn74 m h1,h2⟩
end
noncomputable def checkI (m:Ev.Module):Int:=if h:okM m then Classical.choose (check_ex m h) else 0
theorem checkI_ok (m:Ev.Module) (h:okM m):CallOk tb Try.prog 74 (a74 m) (.v (.int .i64 (checkI m))) [.dead]∧(checkI m=0→CheckQ m):=by
 unfold checkI
 rw [dif_pos h]
 exact Classical.choose_spec (check_ex m h)
theorem check_ok (m:Ev.Module) (h:okM m):CallOk tb Try.prog 74 (a74 m) (.v (.int .i64 (checkI m))) [.dead]:=(checkI_ok m h).1
noncomputable def S74:List (AV Ty)→T (AV Ty×List (AV Ty))
 |[.agg x]=>match cod27.dec false x with
  |some m=> .ite (okM m) (okM.dec m) (.ret (.v (.int .i64 (checkI m)),[.dead])) .fail
  |none=> .fail
 |_=> .fail
theorem S74_ok (l:List (AV Ty)) (r:AV Ty) (outs:List (AV Ty)) (h:(S74 l).val=some (r,outs)):CallOk tb Try.prog 74 l r outs:=by
 unfold S74 at h
 split at h
 ·rename_i x
  split at h
  ·rename_i m e1
   rcases ite_val h with ⟨e,h⟩|⟨_,h⟩
   ·cases h
    have h1:=cod27_ok.dec false x m e1
    subst h1
    exact check_ok m e
   ·cases h
  ·cases h
 ·cases h
end Go.Proofs.Ytggibjbcbicpjaa.Ev
namespace Go.Proofs.Ytggibjbcbicpjaa.Ev
open Go
set_option linter.unusedVariables false
set_option linter.unusedSimpArgs false
noncomputable def fitB (m:Ev.Module):Bool:=match smallB m with
 |true=>checkI m == 0
 |false=>false
noncomputable def b20:Code:=bodyOf Try.f20
noncomputable def C20:Cfg Ty:=⟨fun
 |33=>some ([],S33)
 |74=>some ([],S74)
 |_=>none,fun _=>false,10,0⟩
def U20:Cuts:=⟨fun _=>none,fun _=>none,fun _=>none⟩
def a20 (m:Module):List (AV Ty):=[.agg [.sl false (91:Nat) m.externs, .sl false (94:Nat) m.globals, .sl false (96:Nat) m.tables, .sl false (33:Nat) m.funcs]]
noncomputable def R20 (m:Module):St Ty→EvR:=resT tb C20 Try.f20.results.toList .keep (a20 m)
theorem e20 (J m):run tb C20 U20 J (R20 m) 4096 [.code b20] ⟨slotsA (a20 m) 0 0,heapA (a20 m)⟩=
 if wideM (Module.mk m.externs m.globals m.tables m.funcs) then
 if smallB (Module.mk m.externs m.globals m.tables m.funcs)=true then
 if okM (Module.mk m.externs m.globals m.tables m.funcs) then
 some (.v (.bool (checkI (Module.mk m.externs m.globals m.tables m.funcs) == 0)),[.dead])
 else none
 else
 some (.v (.bool false),[.dead])
 else none:=by kernel_rfl

theorem in20:Entered 20:=⟨Try.f20,b20,by kernel_rfl,by kernel_rfl,by kernel_rfl⟩
theorem fn20 (m:Ev.Module) {res:AV Ty} {outs:List (AV Ty)} (h:Ends C20 U20 (R20 m) [.code b20] ⟨slotsA (a20 m) 0 0,heapA (a20 m)⟩ (some (res,outs))):CallOk tb Try.prog 20 (a20 m) res outs:=by
 obtain ⟨n0,hn⟩:=h
 exact fn_ok (C:=C20) (U:=U20) (n:=0+n0) (q:= .keep) tbOk good (fun f mu S h=>by
  unfold C20 at h
  simp only at h
  split at h
  ·cases h;exact ⟨in33,S33_ok⟩
  ·cases h;exact ⟨in74,S74_ok⟩
  ·cases h) mixed (fn:=Try.f20) (body:=b20) (by kernel_rfl) (by kernel_rfl) rfl rfl (by show 1≤10;omega) (hn 0)
theorem fit_ok (m:Ev.Module) (h:wideM m):CallOk tb Try.prog 20 (a20 m) (.v (.bool (fitB m))) [.dead]:=by
 have e0:(Module.mk m.externs m.globals m.tables m.funcs)=m:=rfl
 refine fn20 m (.step fun J=> ?_)
 rw [e20,e0]
 unfold fitB
 cases hs:smallB m with
 |true=>
  have hm:okM m:=smallM.ok (of_decide_eq_true hs)
  simp (disch:=first|omega|assumption|(rw [dT];omega)|(rw [dF];omega)) only [↓iP,↓iN,iT,iF,wrap_up,tN,Nat.zero_add,h,hm]
 |false=>simp (disch:=first|omega|assumption|(rw [dT];omega)|(rw [dF];omega)) only [↓iP,↓iN,iT,iF,wrap_up,tN,Nat.zero_add,h,Bool.false_eq_true]
theorem fitB_q {m:Ev.Module} (h:fitB m=true):smallM m∧CheckQ m:=by
 unfold fitB at h
 cases hs:smallB m with
 |true=>
  rw [hs] at h
  have hm:smallM m:=of_decide_eq_true hs
  exact ⟨hm,(checkI_ok m (smallM.ok hm)).2 (beq_iff_eq.1 h)⟩
 |false=>rw [hs] at h;cases h
noncomputable def S20:List (AV Ty)→T (AV Ty×List (AV Ty))
 |[.agg x]=>match cod27.dec false x with
  |some m=> .ite (wideM m) (wideM.dec m) (.ret (.v (.bool (fitB m)),[.dead])) .fail
  |none=> .fail
 |_=> .fail
theorem S20_ok (l:List (AV Ty)) (r:AV Ty) (outs:List (AV Ty)) (h:(S20 l).val=some (r,outs)):CallOk tb Try.prog 20 l r outs:=by
 unfold S20 at h
 split at h
 ·rename_i x
  split at h
  ·rename_i m e1
   rcases ite_val h with ⟨e,h⟩|⟨_,h⟩
   ·cases h
    have h1:=cod27_ok.dec false x m e1
    subst h1
    exact fit_ok m e
   ·cases h
  ·cases h
 ·cases h
end Go.Proofs.Ytggibjbcbicpjaa.Ev
namespace Go.Proofs.Ytggibjbcbicpjaa.Ev
open Go
set_option linter.unusedVariables false
set_option linter.unusedSimpArgs false
noncomputable def b3:Code:=bodyOf Try.f3
noncomputable def C3:Cfg Ty:=⟨fun
 |19=>some ([],S19)
 |20=>some ([],S20)
 |21=>some ([],S21)
 |22=>some ([],S22)
 |23=>some ([],S23)
 |_=>none,fun
 |59=>true
 |_=>false,103,0⟩
def U3:Cuts:=⟨fun
 |0=>some []
 |_=>none,fun
 |0=>some [(2,none),(3,none),(12,none),(13,none),(14,none)]
 |_=>none,fun
 |5=>some [0,1,2,3,4,5,6,7,8,9,10,11]
 |9=>some [0,1,2,3,4,5,6,7,8,9,10,11]
 |14=>some [0,2,3,1,4,5,6,7]
 |_=>none⟩
noncomputable def k3_j0:List Item:=[.code (sndC (sndC (sndC (sndC (sndC (sndC (sndC (sndC (sndC (sndC (sndC (sndC (sndC b3)))))))))))))]
noncomputable def k3_l0:List Item:=[.code (inC (inC (sndC (fstC (sndC (sndC (sndC (sndC (sndC (sndC (sndC (sndC (sndC (sndC (sndC (sndC b3)))))))))))))))), .inLoop (inC (inC (sndC (fstC (sndC (sndC (sndC (sndC (sndC (sndC (sndC (sndC (sndC (sndC (sndC (sndC b3)))))))))))))))), .inBlock 0, .code (sndC (sndC (sndC (sndC (sndC (sndC (sndC (sndC (sndC (sndC (sndC (sndC (sndC b3)))))))))))))]
def a3 (m:Module) (k:Int) (v:Int) (x:Int):List (AV Ty):=[.agg [.sl false (91:Nat) m.externs, .sl false (94:Nat) m.globals, .sl false (96:Nat) m.tables, .sl false (33:Nat) m.funcs], .v (.int .i64 k), .v (.int .i64 v), .v (.int .i64 x)]
noncomputable def R3 (m:Module) (k:Int) (v:Int) (x:Int):St Ty→EvR:=resT tb C3 Try.f3.results.toList .keep (a3 m k v x)
def s3_l0 (m:Module) (k:Int) (v:Int) (x:Int) (v2:Int) (v3:Int) (v14:Int) (h0:List Int) (h1:List Int):St Ty:=St.mk [(2, .v (.int .i64 v2)),(3, .v (.int .i64 v3)),(12, .ref (0) [] none false),(13, .ref (1) [] none false),(14, .v (.int .i64 v14))] [some (Root.mk (3) true h0),some (Root.mk (3) true h1)]
def s3_j0 (m:Module) (k:Int) (v:Int) (x:Int):St Ty:=St.mk [] []
theorem e3 (J m k v x):run tb C3 U3 J (R3 m k v x) 4096 [.code b3] ⟨slotsA (a3 m k v x) 0 0,heapA (a3 m k v x)⟩=
 if wideM m then
 if (!fitB m)=false then
 if ((↑m.funcs.length:Int) == 0)=true then
 some (.v (.bool true),[.dead, .dead, .dead, .dead])
 else
 if (↑m.funcs.length:Int)=0 then
 none
 else
 if 0≤(bitsI BinOp.and IntKind.i64 k 65535).tmod (↑m.funcs.length:Int) then
 if (bitsI BinOp.and IntKind.i64 k 65535).tmod (↑m.funcs.length:Int)<(↑m.funcs.length:Int) then
 if okF (m.funcs.getD ((bitsI BinOp.and IntKind.i64 k 65535).tmod (↑m.funcs.length:Int)).toNat (Func.mk ByteArray.empty false [] 0 [])) then
 if decide ((↑(typesOf (m.funcs.getD ((bitsI BinOp.and IntKind.i64 k 65535).tmod (↑m.funcs.length:Int)).toNat (Func.mk ByteArray.empty false [] 0 []))).length:Int)-1<2)=true then
 some (.v (.bool true),[.dead, .dead, .dead, .dead])
 else
 if (↑(typesOf (m.funcs.getD ((bitsI BinOp.and IntKind.i64 k 65535).tmod (↑m.funcs.length:Int)).toNat (Func.mk ByteArray.empty false [] 0 []))).length:Int)-1=0 then
 none
 else
 if (↑(typesOf (m.funcs.getD ((bitsI BinOp.and IntKind.i64 k 65535).tmod (↑m.funcs.length:Int)).toNat (Func.mk ByteArray.empty false [] 0 []))).length:Int)-1=0 then
 none
 else
 if (IntKind.i64.wrap (1+(bitsI BinOp.and IntKind.i64 v 65535).tmod ((↑(typesOf (m.funcs.getD ((bitsI BinOp.and IntKind.i64 k 65535).tmod (↑m.funcs.length:Int)).toNat (Func.mk ByteArray.empty false [] 0 []))).length:Int)-1)) == IntKind.i64.wrap (1+(bitsI BinOp.and IntKind.i64 x 65535).tmod ((↑(typesOf (m.funcs.getD ((bitsI BinOp.and IntKind.i64 k 65535).tmod (↑m.funcs.length:Int)).toNat (Func.mk ByteArray.empty false [] 0 []))).length:Int)-1)))=true then
 some (.v (.bool true),[.dead, .dead, .dead, .dead])
 else
 if 0≤IntKind.i64.wrap ((↑(typesOf (m.funcs.getD ((bitsI BinOp.and IntKind.i64 k 65535).tmod (↑m.funcs.length:Int)).toNat (Func.mk ByteArray.empty false [] 0 []))).length:Int)-1+1)∧IntKind.i64.wrap ((↑(typesOf (m.funcs.getD ((bitsI BinOp.and IntKind.i64 k 65535).tmod (↑m.funcs.length:Int)).toNat (Func.mk ByteArray.empty false [] 0 []))).length:Int)-1+1)≤IntKind.i64.wrap ((↑(typesOf (m.funcs.getD ((bitsI BinOp.and IntKind.i64 k 65535).tmod (↑m.funcs.length:Int)).toNat (Func.mk ByteArray.empty false [] 0 []))).length:Int)-1+1)∧IntKind.i64.wrap ((↑(typesOf (m.funcs.getD ((bitsI BinOp.and IntKind.i64 k 65535).tmod (↑m.funcs.length:Int)).toNat (Func.mk ByteArray.empty false [] 0 []))).length:Int)-1+1)≤1099511627776∧IntKind.i64.wrap ((↑(typesOf (m.funcs.getD ((bitsI BinOp.and IntKind.i64 k 65535).tmod (↑m.funcs.length:Int)).toNat (Func.mk ByteArray.empty false [] 0 []))).length:Int)-1+1)*(↑8:Int)≤1099511627776 then
 if 0≤IntKind.i64.wrap (1+(bitsI BinOp.and IntKind.i64 v 65535).tmod ((↑(typesOf (m.funcs.getD ((bitsI BinOp.and IntKind.i64 k 65535).tmod (↑m.funcs.length:Int)).toNat (Func.mk ByteArray.empty false [] 0 []))).length:Int)-1)) then
 if IntKind.i64.wrap (1+(bitsI BinOp.and IntKind.i64 v 65535).tmod ((↑(typesOf (m.funcs.getD ((bitsI BinOp.and IntKind.i64 k 65535).tmod (↑m.funcs.length:Int)).toNat (Func.mk ByteArray.empty false [] 0 []))).length:Int)-1))<(↑(List.replicate (IntKind.i64.wrap ((↑(typesOf (m.funcs.getD ((bitsI BinOp.and IntKind.i64 k 65535).tmod (↑m.funcs.length:Int)).toNat (Func.mk ByteArray.empty false [] 0 []))).length:Int)-1+1)).toNat (0:Int)).length:Int) then
 if okF (m.funcs.getD ((bitsI BinOp.and IntKind.i64 k 65535).tmod (↑m.funcs.length:Int)).toNat (Func.mk ByteArray.empty false [] 0 [])) then
 if okF (m.funcs.getD ((bitsI BinOp.and IntKind.i64 k 65535).tmod (↑m.funcs.length:Int)).toNat (Func.mk ByteArray.empty false [] 0 []))∧((List.replicate (IntKind.i64.wrap ((↑(typesOf (m.funcs.getD ((bitsI BinOp.and IntKind.i64 k 65535).tmod (↑m.funcs.length:Int)).toNat (Func.mk ByteArray.empty false [] 0 []))).length:Int)-1+1)).toNat 0).set (0+(IntKind.i64.wrap (1+(bitsI BinOp.and IntKind.i64 v 65535).tmod ((↑(typesOf (m.funcs.getD ((bitsI BinOp.and IntKind.i64 k 65535).tmod (↑m.funcs.length:Int)).toNat (Func.mk ByteArray.empty false [] 0 []))).length:Int)-1))).toNat) (IntKind.i64.wrap (1+(bitsI BinOp.and IntKind.i64 x 65535).tmod ((↑(typesOf (m.funcs.getD ((bitsI BinOp.and IntKind.i64 k 65535).tmod (↑m.funcs.length:Int)).toNat (Func.mk ByteArray.empty false [] 0 []))).length:Int)-1)))).length≤1000000 then
 if okF (Func.mk (m.funcs.getD ((bitsI BinOp.and IntKind.i64 k 65535).tmod (↑m.funcs.length:Int)).toNat (Func.mk ByteArray.empty false [] 0 [])).name (m.funcs.getD ((bitsI BinOp.and IntKind.i64 k 65535).tmod (↑m.funcs.length:Int)).toNat (Func.mk ByteArray.empty false [] 0 [])).out (m.funcs.getD ((bitsI BinOp.and IntKind.i64 k 65535).tmod (↑m.funcs.length:Int)).toNat (Func.mk ByteArray.empty false [] 0 [])).params (m.funcs.getD ((bitsI BinOp.and IntKind.i64 k 65535).tmod (↑m.funcs.length:Int)).toNat (Func.mk ByteArray.empty false [] 0 [])).result (swapK (m.funcs.getD ((bitsI BinOp.and IntKind.i64 k 65535).tmod (↑m.funcs.length:Int)).toNat (Func.mk ByteArray.empty false [] 0 [])) ((List.replicate (IntKind.i64.wrap ((↑(typesOf (m.funcs.getD ((bitsI BinOp.and IntKind.i64 k 65535).tmod (↑m.funcs.length:Int)).toNat (Func.mk ByteArray.empty false [] 0 []))).length:Int)-1+1)).toNat 0).set (0+(IntKind.i64.wrap (1+(bitsI BinOp.and IntKind.i64 v 65535).tmod ((↑(typesOf (m.funcs.getD ((bitsI BinOp.and IntKind.i64 k 65535).tmod (↑m.funcs.length:Int)).toNat (Func.mk ByteArray.empty false [] 0 []))).length:Int)-1))).toNat) (IntKind.i64.wrap (1+(bitsI BinOp.and IntKind.i64 x 65535).tmod ((↑(typesOf (m.funcs.getD ((bitsI BinOp.and IntKind.i64 k 65535).tmod (↑m.funcs.length:Int)).toNat (Func.mk ByteArray.empty false [] 0 []))).length:Int)-1)))))) then
 if ((↑(usesOf (m.funcs.getD ((bitsI BinOp.and IntKind.i64 k 65535).tmod (↑m.funcs.length:Int)).toNat (Func.mk ByteArray.empty false [] 0 []))).length:Int) != (↑(usesOf (Func.mk (m.funcs.getD ((bitsI BinOp.and IntKind.i64 k 65535).tmod (↑m.funcs.length:Int)).toNat (Func.mk ByteArray.empty false [] 0 [])).name (m.funcs.getD ((bitsI BinOp.and IntKind.i64 k 65535).tmod (↑m.funcs.length:Int)).toNat (Func.mk ByteArray.empty false [] 0 [])).out (m.funcs.getD ((bitsI BinOp.and IntKind.i64 k 65535).tmod (↑m.funcs.length:Int)).toNat (Func.mk ByteArray.empty false [] 0 [])).params (m.funcs.getD ((bitsI BinOp.and IntKind.i64 k 65535).tmod (↑m.funcs.length:Int)).toNat (Func.mk ByteArray.empty false [] 0 [])).result (swapK (m.funcs.getD ((bitsI BinOp.and IntKind.i64 k 65535).tmod (↑m.funcs.length:Int)).toNat (Func.mk ByteArray.empty false [] 0 [])) ((List.replicate (IntKind.i64.wrap ((↑(typesOf (m.funcs.getD ((bitsI BinOp.and IntKind.i64 k 65535).tmod (↑m.funcs.length:Int)).toNat (Func.mk ByteArray.empty false [] 0 []))).length:Int)-1+1)).toNat 0).set (0+(IntKind.i64.wrap (1+(bitsI BinOp.and IntKind.i64 v 65535).tmod ((↑(typesOf (m.funcs.getD ((bitsI BinOp.and IntKind.i64 k 65535).tmod (↑m.funcs.length:Int)).toNat (Func.mk ByteArray.empty false [] 0 []))).length:Int)-1))).toNat) (IntKind.i64.wrap (1+(bitsI BinOp.and IntKind.i64 x 65535).tmod ((↑(typesOf (m.funcs.getD ((bitsI BinOp.and IntKind.i64 k 65535).tmod (↑m.funcs.length:Int)).toNat (Func.mk ByteArray.empty false [] 0 []))).length:Int)-1))))))).length:Int))=true then
 some (.v (.bool false),[.dead, .dead, .dead, .dead])
 else
 J k3_l0 (s3_l0 m k v x (IntKind.i64.wrap (1+(bitsI BinOp.and IntKind.i64 v 65535).tmod ((↑(typesOf (m.funcs.getD ((bitsI BinOp.and IntKind.i64 k 65535).tmod (↑m.funcs.length:Int)).toNat (Func.mk ByteArray.empty false [] 0 []))).length:Int)-1))) (IntKind.i64.wrap (1+(bitsI BinOp.and IntKind.i64 x 65535).tmod ((↑(typesOf (m.funcs.getD ((bitsI BinOp.and IntKind.i64 k 65535).tmod (↑m.funcs.length:Int)).toNat (Func.mk ByteArray.empty false [] 0 []))).length:Int)-1))) 0 (usesOf (m.funcs.getD ((bitsI BinOp.and IntKind.i64 k 65535).tmod (↑m.funcs.length:Int)).toNat (Func.mk ByteArray.empty false [] 0 []))) (usesOf (Func.mk (m.funcs.getD ((bitsI BinOp.and IntKind.i64 k 65535).tmod (↑m.funcs.length:Int)).toNat (Func.mk ByteArray.empty false [] 0 [])).name (m.funcs.getD ((bitsI BinOp.and IntKind.i64 k 65535).tmod (↑m.funcs.length:Int)).toNat (Func.mk ByteArray.empty false [] 0 [])).out (m.funcs.getD ((bitsI BinOp.and IntKind.i64 k 65535).tmod (↑m.funcs.length:Int)).toNat (Func.mk ByteArray.empty false [] 0 [])).params (m.funcs.getD ((bitsI BinOp.and IntKind.i64 k 65535).tmod (↑m.funcs.length:Int)).toNat (Func.mk ByteArray.empty false [] 0 [])).result (swapK (m.funcs.getD ((bitsI BinOp.and IntKind.i64 k 65535).tmod (↑m.funcs.length:Int)).toNat (Func.mk ByteArray.empty false [] 0 [])) ((List.replicate (IntKind.i64.wrap ((↑(typesOf (m.funcs.getD ((bitsI BinOp.and IntKind.i64 k 65535).tmod (↑m.funcs.length:Int)).toNat (Func.mk ByteArray.empty false [] 0 []))).length:Int)-1+1)).toNat 0).set (0+(IntKind.i64.wrap (1+(bitsI BinOp.and IntKind.i64 v 65535).tmod ((↑(typesOf (m.funcs.getD ((bitsI BinOp.and IntKind.i64 k 65535).tmod (↑m.funcs.length:Int)).toNat (Func.mk ByteArray.empty false [] 0 []))).length:Int)-1))).toNat) (IntKind.i64.wrap (1+(bitsI BinOp.and IntKind.i64 x 65535).tmod ((↑(typesOf (m.funcs.getD ((bitsI BinOp.and IntKind.i64 k 65535).tmod (↑m.funcs.length:Int)).toNat (Func.mk ByteArray.empty false [] 0 []))).length:Int)-1))))))))
 else none
 else none
 else none
 else none
 else none
 else none
 else none
 else none
 else none
 else
 some (.v (.bool true),[.dead, .dead, .dead, .dead])
 else none:=by kernel_rfl
theorem e3_l0 (J m k v x v2 v3 v14 h0 h1):run tb C3 U3 J (R3 m k v x) 4096 k3_l0 (s3_l0 m k v x v2 v3 v14 h0 h1)=
 if decide (v14<(↑h0.length:Int))=true then
 if 0≤v14 then
 if v14<(↑h0.length:Int) then
 if (v14 == v2)=true then
 if (v14 == v3)=true then
 if 0≤v2 then
 if v2<(↑h0.length:Int) then
 if 0≤v14 then
 if v14<(↑h1.length:Int) then
 if (h1.getD (0+v14.toNat) 0 != IntKind.i64.wrap (0+h0.getD (0+v2.toNat) 0))=true then
 some (.v (.bool false),[.dead, .dead, .dead, .dead])
 else
 J k3_l0 (s3_l0 m k v x v2 v3 (IntKind.i64.wrap (v14+1)) h0 h1)
 else none
 else none
 else none
 else none
 else
 if 0≤v14 then
 if v14<(↑h1.length:Int) then
 if (h1.getD (0+v14.toNat) 0 != 0)=true then
 some (.v (.bool false),[.dead, .dead, .dead, .dead])
 else
 J k3_l0 (s3_l0 m k v x v2 v3 (IntKind.i64.wrap (v14+1)) h0 h1)
 else none
 else none
 else
 if (v14 == v3)=true then
 if 0≤v2 then
 if v2<(↑h0.length:Int) then
 if 0≤v14 then
 if v14<(↑h1.length:Int) then
 if (h1.getD (0+v14.toNat) 0 != IntKind.i64.wrap (h0.getD (0+v14.toNat) 0+h0.getD (0+v2.toNat) 0))=true then
 some (.v (.bool false),[.dead, .dead, .dead, .dead])
 else
 J k3_l0 (s3_l0 m k v x v2 v3 (IntKind.i64.wrap (v14+1)) h0 h1)
 else none
 else none
 else none
 else none
 else
 if 0≤v14 then
 if v14<(↑h1.length:Int) then
 if (h1.getD (0+v14.toNat) 0 != h0.getD (0+v14.toNat) 0)=true then
 some (.v (.bool false),[.dead, .dead, .dead, .dead])
 else
 J k3_l0 (s3_l0 m k v x v2 v3 (IntKind.i64.wrap (v14+1)) h0 h1)
 else none
 else none
 else none
 else none
 else
 J k3_j0 (s3_j0 m k v x):=by kernel_rfl
theorem e3_j0 (J m k v x):run tb C3 U3 J (R3 m k v x) 4096 k3_j0 (s3_j0 m k v x)=
 some (.v (.bool true),[.dead, .dead, .dead, .dead]):=by kernel_rfl

theorem fn3 (m:Ev.Module) (k v x:Int) {res:AV Ty} {outs:List (AV Ty)} (h:Ends C3 U3 (R3 m k v x) [.code b3] ⟨slotsA (a3 m k v x) 0 0,heapA (a3 m k v x)⟩ (some (res,outs))):CallOk tb Try.prog 3 (a3 m k v x) res outs:=by
 obtain ⟨n0,hn⟩:=h
 exact fn_ok (C:=C3) (U:=U3) (n:=0+n0) (q:= .keep) tbOk good (fun f mu S h=>by
  unfold C3 at h
  simp only at h
  split at h
  ·cases h;exact ⟨in19,S19_ok⟩
  ·cases h;exact ⟨in20,S20_ok⟩
  ·cases h;exact ⟨in21,S21_ok⟩
  ·cases h;exact ⟨in22,S22_ok⟩
  ·cases h;exact ⟨in23,S23_ok⟩
  ·cases h) mixed (fn:=Try.f3) (body:=b3) (by kernel_rfl) (by kernel_rfl) rfl rfl (by show 4≤103;omega) (hn 0)
theorem swapF_ok {f:Ev.Func} (h:okF f) (l:List Int):okF (swapF f l):=by
 refine ⟨h.1,by unfold swapF;rw [List.length_map];exact h.2.1,fun b hb=> ?_⟩
 obtain ⟨b',hb',rfl⟩:=List.mem_map.1 hb
 have h2:=h.2.2 b' hb'
 refine ⟨by simp only [List.length_map];exact h2.1,fun i hi=> ?_⟩
 obtain ⟨i',hi',rfl⟩:=List.mem_map.1 hi
 have h3:=h2.2 i' hi'
 exact ⟨by simp only [List.length_map];exact h3.1,h3.2⟩
section
variable {m:Ev.Module} {k v x:Int}
theorem Swaps.i {V X:Nat} {u w:List Int} (hl:u.length=w.length) (hu:u.length≤9000000000) (hV:V<u.length) (hne:V≠X) (hw: ∀i,i<u.length→w.getD i 0=(if i=V then 0 else u.getD i 0)+if i=X then u.getD V 0 else 0) (hub: ∀i,i<u.length→0≤u.getD i 0∧u.getD i 0≤1000000000) {i:Nat} (hi:i<u.length):
  Goes C3 U3 (R3 m k v x) k3_l0 (s3_l0 m k v x V X i u w) k3_l0 (s3_l0 m k v x V X (i+1:Nat) u w):= .step fun J=>by
 have ww:IntKind.i64.wrap ((i:Int)+1)=((i+1:Nat):Int):=wrap_nat (by omega) (by omega)
 have h1:=hw i hi
 have h2:=hub i hi
 have h3:=hub V hV
 rw [e3_l0]
 simp only [Int.toNat_natCast,Nat.zero_add,ww]
 by_cases e1:i=V
 ·subst e1
  rw [if_pos rfl,if_neg hne] at h1
  have b2:((i:Int) == (X:Int))=false:=beq_eq_false_iff_ne.2 (by omega)
  have b3:(w.getD i 0 != 0)=false:=by rw [h1];rfl
  simp only [beq_self_eq_true,b2,b3]
  simp (disch:=first|omega|assumption|(rw [dT];omega)|(rw [dF];omega)) only [↓iP,↓iN,iT,iF,wrap_up,tN,Nat.zero_add,Bool.false_eq_true]
 ·have b1:((i:Int) == (V:Int))=false:=beq_eq_false_iff_ne.2 (by omega)
  rw [if_neg e1] at h1
  by_cases e2:i=X
  ·subst e2
   rw [if_pos rfl] at h1
   have b3:(w.getD i 0 != IntKind.i64.wrap (u.getD i 0+u.getD V 0))=false:=by
    rw [h1,wrap_up (by omega)]
    exact bne_self_eq_false ..
   simp only [beq_self_eq_true,b1,b3]
   simp (disch:=first|omega|assumption|(rw [dT];omega)|(rw [dF];omega)) only [↓iP,↓iN,iT,iF,wrap_up,tN,Nat.zero_add,Bool.false_eq_true]
  ·have b2:((i:Int) == (X:Int))=false:=beq_eq_false_iff_ne.2 (by omega)
   rw [if_neg e2] at h1
   have b3:(w.getD i 0 != u.getD i 0)=false:=by
    rw [h1,Int.add_zero]
    exact bne_self_eq_false ..
   simp only [b1,b2,b3]
   simp (disch:=first|omega|assumption|(rw [dT];omega)|(rw [dF];omega)) only [↓iP,↓iN,iT,iF,wrap_up,tN,Nat.zero_add,Bool.false_eq_true]
end
theorem swaps_ok (m:Ev.Module) (k v x:Int) (hw:wideM m):CallOk tb Try.prog 3 (a3 m k v x) (.v (.bool true)) [.dead, .dead, .dead, .dead]:=by
 have hE:=fun J=>e3 J m k v x
 refine fn3 m k v x ?_
 cases hf:fitB m with
 |false=>
  simp only [if_pos hw,hf,Bool.not_false,Bool.true_eq_false,if_false] at hE
  exact .step hE
 |true=>
  have hm:=(fitB_q hf).1.ok
  have hml:=hm.1.2.2.2
  by_cases h0:m.funcs.length=0
  ·have b0:((m.funcs.length:Int) == 0)=true:=by rw [h0];rfl
   simp only [if_pos hw,hf,Bool.not_true,if_true,b0] at hE
   exact .step hE
  obtain ⟨K,hK,hKl⟩:=pick_ok (a:=k) (n:=(m.funcs.length:Int)) (by omega)
  have b0:((m.funcs.length:Int) == 0)=false:=beq_eq_false_iff_ne.2 (by omega)
  have hF:okF (m.funcs.getD K (Func.mk ByteArray.empty false [] 0 [])):=hm.f (by omega)
  have hL:lightF (m.funcs.getD K (Func.mk ByteArray.empty false [] 0 [])):=(fitB_q hf).1.2.2.2.2.1 _ (getD_mem (by omega))
  simp only [if_pos hw,hf,Bool.not_true,b0,hK,Int.toNat_natCast] at hE
  generalize m.funcs.getD K (Func.mk ByteArray.empty false [] 0 [])=f at hF hL hE
  obtain ⟨n,hn⟩: ∃n,(typesOf f).length=n+1:=⟨f.params.length+(tyB f.blocks).length,by unfold typesOf;simp only [List.length_append,List.length_cons,List.length_nil];omega⟩
  have hb:(typesOf f).length≤100:=by
   have h1:=tyB_le f.blocks
   have h2:=hL.2.1
   have h3:=hL.2.2.2.1
   unfold typesOf
   simp only [List.length_append,List.length_cons,List.length_nil]
   omega
  have hn1:((typesOf f).length:Int)-1=(n:Int):=by omega
  have hi: ¬(m.funcs.length:Int)=0:=by omega
  have hk0:(0:Int)≤(K:Int):=by omega
  simp only [hn1,if_neg hi,if_pos hk0,if_pos hKl,if_pos hF,if_true,Bool.false_eq_true,if_false] at hE
  by_cases hn2:n<2
  ·have b1:decide ((n:Int)<2)=true:=decide_eq_true (by omega)
   simp only [b1,if_true] at hE
   exact .step hE
  have b1:decide ((n:Int)<2)=false:=decide_eq_false (by omega)
  have hi2: ¬(n:Int)=0:=by omega
  obtain ⟨V,hV,hVl⟩:=pick_ok (a:=v) (n:=(n:Int)) (by omega)
  obtain ⟨X,hX,hXl⟩:=pick_ok (a:=x) (n:=(n:Int)) (by omega)
  have w1:IntKind.i64.wrap (1+(V:Int))=((V+1:Nat):Int):=wrap_nat (by omega) (by omega)
  have w2:IntKind.i64.wrap (1+(X:Int))=((X+1:Nat):Int):=wrap_nat (by omega) (by omega)
  have w3:IntKind.i64.wrap ((n:Int)+1)=((n+1:Nat):Int):=wrap_nat (by omega) (by omega)
  simp only [b1,Bool.false_eq_true,if_false,if_neg hi2,hV,hX,w1,w2,w3,Int.toNat_natCast,Nat.zero_add] at hE
  by_cases hne:V=X
  ·subst hne
   simp only [beq_self_eq_true,if_true] at hE
   exact .step hE
  have b2:(((V+1:Nat):Int) == ((X+1:Nat):Int))=false:=beq_eq_false_iff_ne.2 (by omega)
  have e: ∀l,(Func.mk f.name f.out f.params f.result (swapK f l))=swapF f l:=fun l=>rfl
  have hS:=swapF_ok hF ((List.replicate (n+1) 0).set (V+1) ((X+1:Nat):Int))
  have hlen:(usesOf (swapF f ((List.replicate (n+1) 0).set (V+1) ((X+1:Nat):Int)))).length=n+1:=by rw [uses_len,types_swap];exact hn
  have hlen2:(usesOf f).length=n+1:=by rw [uses_len];exact hn
  have c1:(0:Int)≤((n+1:Nat):Int)∧((n+1:Nat):Int)≤((n+1:Nat):Int)∧((n+1:Nat):Int)≤1099511627776∧((n+1:Nat):Int)*8≤1099511627776:=by omega
  have c2:(0:Int)≤((V+1:Nat):Int):=by omega
  have c3:((V+1:Nat):Int)<((n+1:Nat):Int):=by omega
  have c4:okF f∧((List.replicate (n+1) 0).set (V+1) ((X+1:Nat):Int)).length≤1000000:=⟨hF,by rw [List.length_set,List.length_replicate];omega⟩
  simp only [b2,e,hlen,hlen2,bne_self_eq_false,Bool.false_eq_true,if_false,if_pos hF,if_pos hS,if_pos c1,if_pos c2,List.length_replicate,if_pos c3,if_pos c4] at hE
  refine Goes.ends (.step hE) (Goes.ends (Goes.upto (fun i=>s3_l0 m k v x (V+1:Nat) (X+1:Nat) i (usesOf f) (usesOf (swapF f ((List.replicate (n+1) 0).set (V+1) ((X+1:Nat):Int))))) (n+1) (fun i hi=>Swaps.i (by omega) (by omega) (by omega) (by omega) (fun j hj=>uses_swap hF hn (by omega) (by omega) (by omega) (by omega) (by omega) (by omega)) (fun j hj=>uses_bd hF (by omega)) (by omega)) _ (Nat.le_refl _)) (Goes.ends (k':=k3_j0) (s':=s3_j0 m k v x) (.step fun J=> ?_) (.step fun J=>e3_j0 ..)))
  rw [e3_l0]
  have b3:decide (((n+1:Nat):Int)<((usesOf f).length:Int))=false:=decide_eq_false (by omega)
  simp only [b3,Bool.false_eq_true,if_false]
end Go.Proofs.Ytggibjbcbicpjaa.Ev
namespace Go.Proofs.Ytggibjbcbicpjaa.Ev
open Go
set_option linter.unusedVariables false
set_option linter.unusedSimpArgs false
theorem reads:Reads tb:=by
 intro t h
 have h0:isRd tb t=true:=h
 have h:hasA t=true:=isRd_has h
 unfold hasA at h
 split at h
 ·refine ⟨by show 0<1;omega,[.int .i64],by kernel_rfl,rfl,fun l h=> ?_⟩
  match l,h.1 with
  |[a0],_=>
   obtain ⟨_,rfl⟩:=leaf_int (h.2 0 _ _ rfl rfl)
   exact ⟨_,rfl⟩
 ·refine ⟨by show 0<1;omega,[.int .i64],by kernel_rfl,rfl,fun l h=> ?_⟩
  match l,h.1 with
  |[a0],_=>
   obtain ⟨_,rfl⟩:=leaf_int (h.2 0 _ _ rfl rfl)
   exact ⟨_,rfl⟩
 ·refine ⟨by show 0<1;omega,[.bool],by kernel_rfl,rfl,fun l h=> ?_⟩
  match l,h.1 with
  |[a0],_=>
   obtain ⟨_,rfl⟩:=leaf_bool (h.2 0 _ _ rfl rfl)
   exact ⟨_,rfl⟩
 ·refine ⟨by show 0<1;omega,[.int .u8],by kernel_rfl,rfl,fun l h=> ?_⟩
  match l,h.1 with
  |[a0],_=>
   obtain ⟨_,rfl⟩:=leaf_int (h.2 0 _ _ rfl rfl)
   exact ⟨_,rfl⟩
 ·refine ⟨by show 0<1;omega,[.str],by kernel_rfl,rfl,fun l h=> ?_⟩
  match l,h.1 with
  |[a0],_=>
   obtain ⟨_,rfl⟩:=leaf_str (h.2 0 _ _ rfl rfl)
   exact ⟨_,rfl⟩
 ·refine ⟨by show 0<1;omega,[.sl 91],by kernel_rfl,rfl,fun l h=> ?_⟩
  match l,h.1 with
  |[a0],_=>
   obtain ⟨_,rfl⟩:=leaf_sl (h.2 0 _ _ rfl rfl)
   exact ⟨_,rfl⟩
 ·refine ⟨by show 0<1;omega,[.sl 94],by kernel_rfl,rfl,fun l h=> ?_⟩
  match l,h.1 with
  |[a0],_=>
   obtain ⟨_,rfl⟩:=leaf_sl (h.2 0 _ _ rfl rfl)
   exact ⟨_,rfl⟩
 ·refine ⟨by show 0<1;omega,[.sl 96],by kernel_rfl,rfl,fun l h=> ?_⟩
  match l,h.1 with
  |[a0],_=>
   obtain ⟨_,rfl⟩:=leaf_sl (h.2 0 _ _ rfl rfl)
   exact ⟨_,rfl⟩
 ·refine ⟨by show 0<1;omega,[.sl 33],by kernel_rfl,rfl,fun l h=> ?_⟩
  match l,h.1 with
  |[a0],_=>
   obtain ⟨_,rfl⟩:=leaf_sl (h.2 0 _ _ rfl rfl)
   exact ⟨_,rfl⟩
 ·refine ⟨by show 0<4;omega,[.sl 91, .sl 94, .sl 96, .sl 33],by kernel_rfl,rfl,fun l h=> ?_⟩
  match l,h.1 with
  |[a0,a1,a2,a3],_=>
   obtain ⟨_,rfl⟩:=leaf_sl (h.2 0 _ _ rfl rfl)
   obtain ⟨_,rfl⟩:=leaf_sl (h.2 1 _ _ rfl rfl)
   obtain ⟨_,rfl⟩:=leaf_sl (h.2 2 _ _ rfl rfl)
   obtain ⟨_,rfl⟩:=leaf_sl (h.2 3 _ _ rfl rfl)
   exact ⟨_,rfl⟩
 ·refine ⟨by show 0<1;omega,[.sl 3],by kernel_rfl,rfl,fun l h=> ?_⟩
  match l,h.1 with
  |[a0],_=>
   obtain ⟨_,rfl⟩:=leaf_sl (h.2 0 _ _ rfl rfl)
   exact ⟨_,rfl⟩
 ·refine ⟨by show 0<1;omega,[.sl 44],by kernel_rfl,rfl,fun l h=> ?_⟩
  match l,h.1 with
  |[a0],_=>
   obtain ⟨_,rfl⟩:=leaf_sl (h.2 0 _ _ rfl rfl)
   exact ⟨_,rfl⟩
 ·refine ⟨by show 0<5;omega,[.str, .bool, .sl 3, .int .i64, .sl 44],by kernel_rfl,rfl,fun l h=> ?_⟩
  match l,h.1 with
  |[a0,a1,a2,a3,a4],_=>
   obtain ⟨_,rfl⟩:=leaf_str (h.2 0 _ _ rfl rfl)
   obtain ⟨_,rfl⟩:=leaf_bool (h.2 1 _ _ rfl rfl)
   obtain ⟨_,rfl⟩:=leaf_sl (h.2 2 _ _ rfl rfl)
   obtain ⟨_,rfl⟩:=leaf_int (h.2 3 _ _ rfl rfl)
   obtain ⟨_,rfl⟩:=leaf_sl (h.2 4 _ _ rfl rfl)
   exact ⟨_,rfl⟩
 ·refine ⟨by show 0<1;omega,[.sl 46],by kernel_rfl,rfl,fun l h=> ?_⟩
  match l,h.1 with
  |[a0],_=>
   obtain ⟨_,rfl⟩:=leaf_sl (h.2 0 _ _ rfl rfl)
   exact ⟨_,rfl⟩
 ·refine ⟨by show 0<1;omega,[.sl 46],by kernel_rfl,rfl,fun l h=> ?_⟩
  match l,h.1 with
  |[a0],_=>
   obtain ⟨_,rfl⟩:=leaf_sl (h.2 0 _ _ rfl rfl)
   exact ⟨_,rfl⟩
 ·refine ⟨by show 0<7;omega,[.int .i64, .int .i64, .int .i64, .int .i64, .int .i64, .sl 3, .sl 3],by kernel_rfl,rfl,fun l h=> ?_⟩
  match l,h.1 with
  |[a0,a1,a2,a3,a4,a5,a6],_=>
   obtain ⟨_,rfl⟩:=leaf_int (h.2 0 _ _ rfl rfl)
   obtain ⟨_,rfl⟩:=leaf_int (h.2 1 _ _ rfl rfl)
   obtain ⟨_,rfl⟩:=leaf_int (h.2 2 _ _ rfl rfl)
   obtain ⟨_,rfl⟩:=leaf_int (h.2 3 _ _ rfl rfl)
   obtain ⟨_,rfl⟩:=leaf_int (h.2 4 _ _ rfl rfl)
   obtain ⟨_,rfl⟩:=leaf_sl (h.2 5 _ _ rfl rfl)
   obtain ⟨_,rfl⟩:=leaf_sl (h.2 6 _ _ rfl rfl)
   exact ⟨_,rfl⟩
 ·refine ⟨by show 0<1;omega,[.sl 30],by kernel_rfl,rfl,fun l h=> ?_⟩
  match l,h.1 with
  |[a0],_=>
   obtain ⟨_,rfl⟩:=leaf_sl (h.2 0 _ _ rfl rfl)
   exact ⟨_,rfl⟩
 ·refine ⟨by show 0<1;omega,[.sl 4],by kernel_rfl,rfl,fun l h=> ?_⟩
  match l,h.1 with
  |[a0],_=>
   obtain ⟨_,rfl⟩:=leaf_sl (h.2 0 _ _ rfl rfl)
   exact ⟨_,rfl⟩
 ·refine ⟨by show 0<3;omega,[.str, .sl 3, .int .i64],by kernel_rfl,rfl,fun l h=> ?_⟩
  match l,h.1 with
  |[a0,a1,a2],_=>
   obtain ⟨_,rfl⟩:=leaf_str (h.2 0 _ _ rfl rfl)
   obtain ⟨_,rfl⟩:=leaf_sl (h.2 1 _ _ rfl rfl)
   obtain ⟨_,rfl⟩:=leaf_int (h.2 2 _ _ rfl rfl)
   exact ⟨_,rfl⟩
 ·refine ⟨by show 0<1;omega,[.sl 2],by kernel_rfl,rfl,fun l h=> ?_⟩
  match l,h.1 with
  |[a0],_=>
   obtain ⟨_,rfl⟩:=leaf_sl (h.2 0 _ _ rfl rfl)
   exact ⟨_,rfl⟩
 ·refine ⟨by show 0<2;omega,[.str, .sl 2],by kernel_rfl,rfl,fun l h=> ?_⟩
  match l,h.1 with
  |[a0,a1],_=>
   obtain ⟨_,rfl⟩:=leaf_str (h.2 0 _ _ rfl rfl)
   obtain ⟨_,rfl⟩:=leaf_sl (h.2 1 _ _ rfl rfl)
   exact ⟨_,rfl⟩
 ·refine ⟨by show 0<2;omega,[.str, .sl 3],by kernel_rfl,rfl,fun l h=> ?_⟩
  match l,h.1 with
  |[a0,a1],_=>
   obtain ⟨_,rfl⟩:=leaf_str (h.2 0 _ _ rfl rfl)
   obtain ⟨_,rfl⟩:=leaf_sl (h.2 1 _ _ rfl rfl)
   exact ⟨_,rfl⟩
 ·refine ⟨by show 0<1;omega,[.sl 71],by kernel_rfl,rfl,fun l h=> ?_⟩
  match l,h.1 with
  |[a0],_=>
   obtain ⟨_,rfl⟩:=leaf_sl (h.2 0 _ _ rfl rfl)
   exact ⟨_,rfl⟩
 ·cases (show false=true from h0)
 ·cases h
end Go.Proofs.Ytggibjbcbicpjaa.Ev
namespace Go.Proofs.Ytggibjbcbicpjaa.Ev
open Go
set_option linter.unusedVariables false
theorem heavy:Heavy tb Try.prog:=by
 intro t i e h hd _
 have h:tiA t=some i:=h
 unfold tiA at h
 split at h<;>first|cases h|skip
 all_goals first|(cases hd;done)|(cases hd;exact of_decide_eq_true (by kernel_rfl))
end Go.Proofs.Ytggibjbcbicpjaa.Ev
namespace Go.Proofs.Ytggibjbcbicpjaa.Ev
open Go
set_option linter.unusedVariables false
theorem fine_row {t:Nat} {xs:List (Ty t)} (h:FineW tb (.sl false t xs)):xs.length≤140737488351232∧ ∀x,x∈xs→ ∀(o:Nat) a,((codA t).enc false x)[o]? =some a→FineW tb a:=by
 cases h with
 |sl _ _ h1 h2=>exact ⟨h1,h2⟩
theorem wide_of {f:Ev.Func} (h: ∀(o:Nat) a,((codA 33).enc false f)[o]? =some a→FineW tb a):wideF f:=fun b hb=>by
 have h4:FineW tb (.sl false 44 f.blocks):=h 4 _ rfl
 have h5:FineW tb (.sl false 46 b.ins):=(fine_row h4).2 b hb 0 _ rfl
 exact (fine_row h5).1
theorem weigh {P:Program} {H:Type} {t:TypeId} {ts:List TypeId} {d:DataW H} {ds:List (DataW H)} {j:Nat} (h:(DataW.weightsEach P ts ds).all (· ≤reachBytes)=true) (h1:ts[j]? =some t) (h2:ds[j]? =some d): ∀n,n∈d.weights P t→n≤reachBytes:=fun n hn=>
 of_decide_eq_true (List.all_eq_true.1 h n (DataW.weights_mem_each h1 h2 n hn))
end Go.Proofs.Ytggibjbcbicpjaa.Ev
namespace Go.Proofs.Ytggibjbcbicpjaa.Ev
open Go
set_option linter.unusedVariables false
def modA (m:Ev.Module):AV Ty:= .agg ((codA 27).enc false m)
theorem wideM_of {m:Ev.Module} (h: ∀(o:Nat) a,((codA 27).enc false m)[o]? =some a→FineW tb a):wideM m:=fun f hf=>by
 have h3:FineW tb (.sl false 33 m.funcs):=h 3 _ rfl
 exact wide_of ((fine_row h3).2 f hf)
theorem open_mod {W:World} {H:Type} {enc:TypeId×Value→H} {spare:Nat→Bool} {held:Bool} {fuel:Nat} {cs:Array Value} {x:DataW H×List MemPlace} (h:DataW.trod enc Try.prog W 0 spare held fuel 27 cs.toList=some x) (hw: ∀n,n∈x.1.weights Try.prog 27→n≤reachBytes):
  ∃m:Ev.Module,Rep tb (fun b _=>b<W.heap.size) W (.agg cs) (modA m)∧wideM m:=by
 obtain ⟨m,h1,h2⟩:=open_tyW tbOk good reads heavy (t:=27) h hw rfl
 have hl:((codA 27).enc false m).length=szOf tb 27:=good.len 27 false m
 refine ⟨m, .agg cs _ ?_ fun i v a e1 e2=>(h2 i v a (by simpa using e1) e2).2,wideM_of fun o a e=> ?_⟩
 ·rw [hl,←h1]
  simp
 ·have ho:o<cs.toList.length:=by rw [h1,←hl];exact get_lt e
  exact (h2 o _ a (List.getElem?_eq_getElem ho) e).1
end Go.Proofs.Ytggibjbcbicpjaa.Ev
