/- The evaluator, what it gives of the functions that are called, and the plain law: part 6 of 6. -/
import Derived.Test.YtggibjbcbicpjaaHue
namespace Go.Proofs.Ytggibjbcbicpjaa.Ev
open Go
set_option linter.unusedVariables false
set_option linter.unusedSimpArgs false
def WhereP (N L:Nat) (h:List S162):Prop:=h.length=L∧ ∀d,d∈h→d.a0<N
theorem WhereP.set {N L i:Nat} {h:List S162} {x:S162} (hP:WhereP N L h) (hx:x.a0<N):WhereP N L (h.set i x):=by
 refine ⟨by rw [List.length_set];exact hP.1,fun d hd=> ?_⟩
 rcases List.mem_or_eq_of_mem_set hd with hd|rfl
 ·exact hP.2 d hd
 ·exact hx
def loc (f:Ev.Func) (i k:Nat):Nat:=f.params.length+(tyB (f.blocks.take i)).length+(tyI ((f.blocks.getD i (Block.mk [])).ins.take k)).length
theorem loc_zero {f:Ev.Func} {i:Nat}:loc f i 0=f.params.length+(tyB (f.blocks.take i)).length:=by
 unfold loc
 rw [List.take_zero]
 rfl
theorem loc_next {f:Ev.Func} {i:Nat} (hi:i<f.blocks.length):loc f i (f.blocks.getD i (Block.mk [])).ins.length=loc f (i+1) 0:=by
 rw [loc_zero]
 unfold loc
 rw [List.take_length,tyB_step hi,List.length_append]
 omega
theorem loc_step {f:Ev.Func} {i k:Nat} (hk:k<(f.blocks.getD i (Block.mk [])).ins.length):loc f i (k+1)=loc f i k+(if ((f.blocks.getD i (Block.mk [])).ins.getD k (Ins.mk 0 0 0 0 0 [] [])).type_ != 0 then 1 else 0):=by
 unfold loc
 rw [tyI_step hk,List.length_append]
 split<;>simp<;>omega
theorem tyB_app (l l':List Ev.Block):tyB (l++l')=tyB l++tyB l':=by simp [tyB]
theorem tyI_app (l l':List Ev.Ins):tyI (l++l')=tyI l++tyI l':=by simp [tyI]
theorem loc_le {f:Ev.Func} {i k:Nat} (hi:i<f.blocks.length):loc f i k+1≤(typesOf f).length:=by
 have h1:(tyB f.blocks).length=(tyB (f.blocks.take (i+1))).length+(tyB (f.blocks.drop (i+1))).length:=by
  rw [←List.length_append,←tyB_app,List.take_append_drop]
 have h2:(tyI (f.blocks.getD i (Block.mk [])).ins).length=(tyI ((f.blocks.getD i (Block.mk [])).ins.take k)).length+(tyI ((f.blocks.getD i (Block.mk [])).ins.drop k)).length:=by
  rw [←List.length_append,←tyI_app,List.take_append_drop]
 rw [tyB_step hi,List.length_append] at h1
 unfold loc typesOf
 simp only [List.length_append,List.length_cons,List.length_nil]
 omega
theorem types_len {f:Ev.Func} (hf:okF f):(typesOf f).length=1+f.params.length+(tyB f.blocks).length∧(typesOf f).length≤1002000:=by
 have h1:=tyB_le f.blocks
 have h2:=hf.szt f.blocks.length
 rw [List.take_length] at h2
 have h3:=hf.1
 have e:(typesOf f).length=1+f.params.length+(tyB f.blocks).length:=by simp only [typesOf,List.length_append,List.length_singleton]
 exact ⟨e,by rw [e];omega⟩
noncomputable def b153:Code:=bodyOf Try.f153
noncomputable def C153:Cfg Ty:=⟨fun
 |21=>some ([],S21)
 |_=>none,fun
 |3=>true
 |_=>false,64,0⟩
def U153:Cuts:=⟨fun
 |0=>some [(1,none),(3,none)]
 |2=>some [(3,none)]
 |3=>some [(1,none),(3,none),(5,none),(6,none)]
 |4=>some [(1,none),(3,none),(5,none),(6,none)]
 |_=>none,fun
 |0=>some [(1,none),(3,none),(4,none)]
 |2=>some [(1,none),(3,none),(5,none),(6,none)]
 |4=>some [(1,none),(3,none),(5,none),(6,none),(7,none)]
 |_=>none,fun _=>none⟩
noncomputable def k153_j0:List Item:=[.code (sndC (sndC (sndC b153)))]
noncomputable def k153_l0:List Item:=[.code (inC (inC (sndC (fstC (sndC (sndC b153)))))), .inLoop (inC (inC (sndC (fstC (sndC (sndC b153)))))), .inBlock 0, .code (sndC (sndC (sndC b153)))]
noncomputable def k153_j2:List Item:=[.code (sndC (sndC (sndC (sndC (sndC b153)))))]
noncomputable def k153_l2:List Item:=[.code (inC (inC (sndC (fstC (sndC (sndC (sndC (sndC b153)))))))), .inLoop (inC (inC (sndC (fstC (sndC (sndC (sndC (sndC b153)))))))), .inBlock 2, .code (sndC (sndC (sndC (sndC (sndC b153)))))]
noncomputable def k153_j3:List Item:=[.code (sndC (sndC (inC (inC (sndC (fstC (sndC (sndC (sndC (sndC b153)))))))))), .inLoop (inC (inC (sndC (fstC (sndC (sndC (sndC (sndC b153)))))))), .inBlock 2, .code (sndC (sndC (sndC (sndC (sndC b153)))))]
noncomputable def k153_j4:List Item:=[.inBlock 3, .code (sndC (sndC (inC (inC (sndC (fstC (sndC (sndC (sndC (sndC b153)))))))))), .inLoop (inC (inC (sndC (fstC (sndC (sndC (sndC (sndC b153)))))))), .inBlock 2, .code (sndC (sndC (sndC (sndC (sndC b153)))))]
noncomputable def k153_l4:List Item:=[.code (inC (inC (sndC (inC (fstC (sndC (inC (inC (sndC (fstC (sndC (sndC (sndC (sndC b153)))))))))))))), .inLoop (inC (inC (sndC (inC (fstC (sndC (inC (inC (sndC (fstC (sndC (sndC (sndC (sndC b153)))))))))))))), .inBlock 4, .inBlock 3, .code (sndC (sndC (inC (inC (sndC (fstC (sndC (sndC (sndC (sndC b153)))))))))), .inLoop (inC (inC (sndC (fstC (sndC (sndC (sndC (sndC b153)))))))), .inBlock 2, .code (sndC (sndC (sndC (sndC (sndC b153)))))]
def a153 (f:Func):List (AV Ty):=[.agg [.v (.string f.name), .v (.bool f.out), .sl false (3:Nat) f.params, .v (.int .i64 f.result), .sl false (44:Nat) f.blocks]]
noncomputable def R153 (f:Func):St Ty→EvR:=resT tb C153 Try.f153.results.toList (.fro 162) (a153 f)
def s153_l0 (f:Func) (v4:Int) (h0:List Func) (h1:List S162):St Ty:=St.mk [(1, .ptr (0) [] (0) (0)),(3, .ref (1) [] none false),(4, .v (.int .i64 v4))] [some (Root.mk (33) false h0),some (Root.mk (162) false h1)]
def s153_j0 (f:Func) (h0:List Func) (h1:List S162):St Ty:=St.mk [(1, .ptr (0) [] (0) (0)),(3, .ref (1) [] none false)] [some (Root.mk (33) false h0),some (Root.mk (162) false h1)]
def s153_l2 (f:Func) (v5:Int) (v6:Int) (h0:List Func) (h1:List S162):St Ty:=St.mk [(1, .ptr (0) [] (0) (0)),(3, .ref (1) [] none false),(5, .v (.int .i64 v5)),(6, .v (.int .i64 v6))] [some (Root.mk (33) false h0),some (Root.mk (162) false h1)]
def s153_l4 (f:Func) (v5:Int) (v6:Int) (v7:Int) (h0:List Func) (h1:List S162):St Ty:=St.mk [(1, .ptr (0) [] (0) (0)),(3, .ref (1) [] none false),(5, .v (.int .i64 v5)),(6, .v (.int .i64 v6)),(7, .v (.int .i64 v7))] [some (Root.mk (33) false h0),some (Root.mk (162) false h1)]
def s153_j2 (f:Func) (h0:List S162):St Ty:=St.mk [(3, .ref (0) [] none false)] [some (Root.mk (162) false h0)]
def s153_j4 (f:Func) (v5:Int) (v6:Int) (h0:List Func) (h1:List S162):St Ty:=St.mk [(1, .ptr (0) [] (0) (0)),(3, .ref (1) [] none false),(5, .v (.int .i64 v5)),(6, .v (.int .i64 v6))] [some (Root.mk (33) false h0),some (Root.mk (162) false h1)]
def s153_j3 (f:Func) (v5:Int) (v6:Int) (h0:List Func) (h1:List S162):St Ty:=St.mk [(1, .ptr (0) [] (0) (0)),(3, .ref (1) [] none false),(5, .v (.int .i64 v5)),(6, .v (.int .i64 v6))] [some (Root.mk (33) false h0),some (Root.mk (162) false h1)]
theorem e153 (J f):run tb C153 U153 J (R153 f) 4096 [.code b153] ⟨slotsA (a153 f) 0 0,heapA (a153 f)⟩=
 if okF (Func.mk f.name f.out f.params f.result f.blocks) then
 if 0≤IntKind.i64.wrap ((↑(typesOf (Func.mk f.name f.out f.params f.result f.blocks)).length:Int)-1+1)∧IntKind.i64.wrap ((↑(typesOf (Func.mk f.name f.out f.params f.result f.blocks)).length:Int)-1+1)≤IntKind.i64.wrap ((↑(typesOf (Func.mk f.name f.out f.params f.result f.blocks)).length:Int)-1+1)∧IntKind.i64.wrap ((↑(typesOf (Func.mk f.name f.out f.params f.result f.blocks)).length:Int)-1+1)≤1099511627776∧IntKind.i64.wrap ((↑(typesOf (Func.mk f.name f.out f.params f.result f.blocks)).length:Int)-1+1)*(↑16:Int)≤1099511627776 then
 J k153_l0 (s153_l0 f 0 ([Func.mk f.name f.out f.params f.result f.blocks]) (List.replicate (IntKind.i64.wrap ((↑(typesOf (Func.mk f.name f.out f.params f.result f.blocks)).length:Int)-1+1)).toNat (S162.mk 0 0)))
 else none
 else none:=by kernel_rfl
theorem e153_l0 (J f v4 h0 h1):run tb C153 U153 J (R153 f) 4096 k153_l0 (s153_l0 f v4 h0 h1)=
 if decide (v4≤(↑(h0.getD (0) (Func.mk ByteArray.empty false [] 0 [])).params.length:Int))=true then
 if 0≤v4 then
 if v4<(↑h1.length:Int) then
 J k153_l0 (s153_l0 f (IntKind.i64.wrap (v4+1)) h0 (h1.set (0+v4.toNat) (S162.mk (-1:Int) (-1:Int))))
 else none
 else none
 else
 J k153_j0 (s153_j0 f h0 h1):=by kernel_rfl
theorem e153_j0 (J f h0 h1):run tb C153 U153 J (R153 f) 4096 k153_j0 (s153_j0 f h0 h1)=
 J k153_l2 (s153_l2 f ((↑(h0.getD (0) (Func.mk ByteArray.empty false [] 0 [])).params.length:Int)) 0 h0 h1):=by kernel_rfl
theorem e153_l2 (J f v5 v6 h0 h1):run tb C153 U153 J (R153 f) 4096 k153_l2 (s153_l2 f v5 v6 h0 h1)=
 if decide (v6<(↑(h0.getD (0) (Func.mk ByteArray.empty false [] 0 [])).blocks.length:Int))=true then
 J k153_l4 (s153_l4 f v5 v6 0 h0 h1)
 else
 J k153_j2 (s153_j2 f h1):=by kernel_rfl
theorem e153_l4 (J f v5 v6 v7 h0 h1):run tb C153 U153 J (R153 f) 4096 k153_l4 (s153_l4 f v5 v6 v7 h0 h1)=
 if 0≤v6 then
 if v6<(↑(h0.getD (0) (Func.mk ByteArray.empty false [] 0 [])).blocks.length:Int) then
 if decide (v7<(↑((h0.getD (0) (Func.mk ByteArray.empty false [] 0 [])).blocks.getD v6.toNat (Block.mk [])).ins.length:Int))=true then
 if 0≤v6 then
 if v6<(↑(h0.getD (0) (Func.mk ByteArray.empty false [] 0 [])).blocks.length:Int) then
 if 0≤v7 then
 if v7<(↑((h0.getD (0) (Func.mk ByteArray.empty false [] 0 [])).blocks.getD v6.toNat (Block.mk [])).ins.length:Int) then
 if ((rdI (h0.getD (0) (Func.mk ByteArray.empty false [] 0 [])).blocks v6.toNat v7.toNat).type_ != 0)=true then
 if 0≤IntKind.i64.wrap (v5+1) then
 if IntKind.i64.wrap (v5+1)<(↑h1.length:Int) then
 J k153_l4 (s153_l4 f (IntKind.i64.wrap (v5+1)) v6 (IntKind.i64.wrap (v7+1)) h0 (h1.set (0+(IntKind.i64.wrap (v5+1)).toNat) (S162.mk v6 v7)))
 else none
 else none
 else
 J k153_l4 (s153_l4 f v5 v6 (IntKind.i64.wrap (v7+1)) h0 h1)
 else none
 else none
 else none
 else none
 else
 J k153_j4 (s153_j4 f v5 v6 h0 h1)
 else none
 else none:=by kernel_rfl
theorem e153_j2 (J f h0):run tb C153 U153 J (R153 f) 4096 k153_j2 (s153_j2 f h0)=
 some (.sl false (162) h0,[.dead]):=by kernel_rfl
theorem e153_j4 (J f v5 v6 h0 h1):run tb C153 U153 J (R153 f) 4096 k153_j4 (s153_j4 f v5 v6 h0 h1)=
 J k153_j3 (s153_j3 f v5 v6 h0 h1):=by kernel_rfl
theorem e153_j3 (J f v5 v6 h0 h1):run tb C153 U153 J (R153 f) 4096 k153_j3 (s153_j3 f v5 v6 h0 h1)=
 J k153_l2 (s153_l2 f v5 (IntKind.i64.wrap (v6+1)) h0 h1):=by kernel_rfl

theorem in153:Entered 153:=⟨Try.f153,b153,by kernel_rfl,by kernel_rfl,by kernel_rfl⟩
theorem fn153 (f:Ev.Func) {res:AV Ty} {outs:List (AV Ty)} (h:Ends C153 U153 (R153 f) [.code b153] ⟨slotsA (a153 f) 0 0,heapA (a153 f)⟩ (some (res,outs))):CallOk tb Try.prog 153 (a153 f) res outs:=by
 obtain ⟨n0,hn⟩:=h
 exact fn_ok (C:=C153) (U:=U153) (n:=0+n0) (q:=(.fro 162)) tbOk good (fun f mu S h=>by
  unfold C153 at h
  simp only at h
  split at h
  ·cases h;exact ⟨in21,S21_ok⟩
  ·cases h) mixed (fn:=Try.f153) (body:=b153) (by kernel_rfl) (by kernel_rfl) rfl rfl (by show 1≤64;omega) (hn 0)
section
variable {f:Ev.Func}
theorem Where.in (hf:okF f) {i k:Nat} (hi:i<f.blocks.length) (hk:k<(f.blocks.getD i (Block.mk [])).ins.length) {G:List S162} (hG:WhereP f.blocks.length (typesOf f).length G): ∃G',WhereP f.blocks.length (typesOf f).length G'∧Goes C153 U153 (R153 f) k153_l4 (s153_l4 f (loc f i k) i k [f] G) k153_l4 (s153_l4 f (loc f i (k+1)) i (k+1:Nat) [f] G'):=by
 have h0:=hf.2.1
 have h1:=hf.b hi
 have h2:=types_len hf
 have hs:=loc_step hk
 have hle:=loc_le (k:=k+1) hi
 have hl:=hG.1
 have ww:IntKind.i64.wrap ((k:Int)+1)=((k+1:Nat):Int):=wrap_nat (by omega) (by omega)
 cases ht:(((f.blocks.getD i (Block.mk [])).ins.getD k (Ins.mk 0 0 0 0 0 [] [])).type_ != 0) with
 |false=>
  rw [ht] at hs
  simp only [Bool.false_eq_true,if_false,Nat.add_zero] at hs
  refine ⟨G,hG, .step fun J=> ?_⟩
  rw [e153_l4,hs]
  simp only [Int.toNat_natCast,ww,List.getD_cons_zero,rdI,ht]
  simp (disch:=first|omega|assumption|(rw [dT];omega)|(rw [dF];omega)) only [↓iP,↓iN,iT,iF,wrap_up,tN,Nat.zero_add,Bool.false_eq_true]
 |true=>
  rw [ht] at hs
  simp only [if_true] at hs
  have w2:IntKind.i64.wrap ((loc f i k:Int)+1)=((loc f i k+1:Nat):Int):=wrap_nat (by omega) (by omega)
  refine ⟨G.set (loc f i k+1) ⟨i,k⟩,hG.set (by simp only;omega), .step fun J=> ?_⟩
  rw [e153_l4,hs]
  simp only [w2,Int.toNat_natCast,ww,List.getD_cons_zero,rdI,ht,Nat.zero_add]
  simp (disch:=first|omega|assumption|(rw [dT];omega)|(rw [dF];omega)) only [↓iP,↓iN,iT,iF,wrap_up,tN,Nat.zero_add]
theorem Where.block (hf:okF f) {i:Nat} (hi:i<f.blocks.length) {G:List S162} (hG:WhereP f.blocks.length (typesOf f).length G): ∃G',WhereP f.blocks.length (typesOf f).length G'∧Goes C153 U153 (R153 f) k153_l2 (s153_l2 f (loc f i 0) i [f] G) k153_l2 (s153_l2 f (loc f (i+1) 0) (i+1:Nat) [f] G'):=by
 have h0:=hf.2.1
 have ww:IntKind.i64.wrap ((i:Int)+1)=((i+1:Nat):Int):=wrap_nat (by omega) (by omega)
 obtain ⟨G',g1,g2⟩:=Goes.shapeI (C:=C153) (U:=U153) (Rt:=R153 f) (k:=k153_l4) (fun (k:Nat) (G:List S162)=>s153_l4 f (loc f i k) i k [f] G) (f.blocks.getD i (Block.mk [])).ins.length (fun _=>WhereP f.blocks.length (typesOf f).length) (fun k G hk hP=>Where.in hf hi hk hP) G hG _ (Nat.le_refl _)
 rw [loc_next hi] at g2
 refine ⟨G',g1, .trans (.step fun J=> ?_) (g2.trans (.trans (k':=k153_j4) (s':=s153_j4 f (loc f (i+1) 0) i [f] G') (.step fun J=> ?_) (.trans (.step fun J=>e153_j4 ..) (.step fun J=> ?_))))⟩
 ·rw [e153_l2]
  simp only [Int.toNat_natCast,List.getD_cons_zero]
  simp (disch:=first|omega|assumption|(rw [dT];omega)|(rw [dF];omega)) only [↓iP,↓iN,iT,iF,wrap_up,tN,Nat.zero_add]
  rfl
 ·rw [e153_l4]
  simp only [Int.toNat_natCast,List.getD_cons_zero]
  simp (disch:=first|omega|assumption|(rw [dT];omega)|(rw [dF];omega)) only [↓iP,↓iN,iT,iF,wrap_up,tN,Nat.zero_add]
 ·rw [e153_j3,ww]
theorem where_ex (f:Ev.Func) (hf:okF f∧1≤f.blocks.length): ∃l:List S162,WhereP f.blocks.length (typesOf f).length l∧CallOk tb Try.prog 153 (a153 f) (.sl false 162 l) [.dead]:=by
 obtain ⟨hf,h1⟩:=hf
 have h0:=hf.2.1
 have hp:=hf.1
 obtain ⟨t1,t2⟩:=types_len hf
 have e0:(Func.mk f.name f.out f.params f.result f.blocks)=f:=rfl
 have w:IntKind.i64.wrap (((typesOf f).length:Int)-1+1)=((typesOf f).length:Int):=wrap_nat (by omega) (by omega)
 obtain ⟨G1,g1,g2⟩:=Goes.shapeI (C:=C153) (U:=U153) (Rt:=R153 f) (k:=k153_l0) (fun (k:Nat) (G:List S162)=>s153_l0 f k [f] G) (f.params.length+1) (fun _=>WhereP f.blocks.length (typesOf f).length) (fun k G hk hP=>⟨G.set k ⟨-1,-1⟩,hP.set (by simp only;omega), .step fun J=>by
  have hl:=hP.1
  have ww:IntKind.i64.wrap ((k:Int)+1)=((k+1:Nat):Int):=wrap_nat (by omega) (by omega)
  rw [e153_l0]
  simp only [Int.toNat_natCast,ww,List.getD_cons_zero,Nat.zero_add]
  simp (disch:=first|omega|assumption|(rw [dT];omega)|(rw [dF];omega)) only [↓iP,↓iN,iT,iF,wrap_up,tN,Nat.zero_add]⟩) (List.replicate (typesOf f).length ⟨0,0⟩) ⟨List.length_replicate,fun d hd=>by
   have:=List.eq_of_mem_replicate hd
   subst this
   simp only
   omega⟩ _ (Nat.le_refl _)
 obtain ⟨G2,g3,g4⟩:=Goes.shapeI (C:=C153) (U:=U153) (Rt:=R153 f) (k:=k153_l2) (fun (i:Nat) (G:List S162)=>s153_l2 f (loc f i 0) i [f] G) f.blocks.length (fun _=>WhereP f.blocks.length (typesOf f).length) (fun i G hi hP=>Where.block hf hi hP) G1 g1 _ (Nat.le_refl _)
 refine ⟨G2,g3,fn153 f (Goes.ends (.step fun J=> ?_) (g2.ends (Goes.ends (k':=k153_j0) (s':=s153_j0 f [f] G1) (.step fun J=> ?_) (Goes.ends (.step fun J=> ?_) (g4.ends (Goes.ends (k':=k153_j2) (s':=s153_j2 f G2) (.step fun J=> ?_) (.step fun J=>e153_j2 ..)))))))⟩
 ·rw [e153,e0,w]
  have c1:0≤((typesOf f).length:Int)∧((typesOf f).length:Int)≤((typesOf f).length:Int)∧((typesOf f).length:Int)≤1099511627776∧((typesOf f).length:Int)*((16:Nat):Int)≤1099511627776:=by omega
  simp (disch:=first|omega|assumption|(rw [dT];omega)|(rw [dF];omega)) only [↓iP,↓iN,iT,iF,wrap_up,tN,Nat.zero_add,hf,c1,and_self]
  rfl
 ·rw [e153_l0]
  simp only [List.getD_cons_zero]
  simp (disch:=first|omega|assumption|(rw [dT];omega)|(rw [dF];omega)) only [↓iP,↓iN,iT,iF,wrap_up,tN,Nat.zero_add]
 ·rw [e153_j0,loc_zero]
  rfl
 ·rw [e153_l2]
  simp only [List.getD_cons_zero]
  simp (disch:=first|omega|assumption|(rw [dT];omega)|(rw [dF];omega)) only [↓iP,↓iN,iT,iF,wrap_up,tN,Nat.zero_add]
end
def wherePre (f:Ev.Func):Prop:=okF f∧1≤f.blocks.length
instance wherePre.dec (f:Ev.Func):Decidable (wherePre f):=by unfold wherePre;infer_instance
noncomputable def whereL (f:Ev.Func):List S162:=if h:okF f∧1≤f.blocks.length then Classical.choose (where_ex f h) else []
theorem whereL_ok (f:Ev.Func) (h:wherePre f):WhereP f.blocks.length (typesOf f).length (whereL f)∧CallOk tb Try.prog 153 (a153 f) (.sl false 162 (whereL f)) [.dead]:=by
 have h:okF f∧1≤f.blocks.length:=h
 unfold whereL
 rw [dif_pos h]
 exact Classical.choose_spec (where_ex f h)
theorem where_ok (f:Ev.Func) (h:wherePre f):CallOk tb Try.prog 153 (a153 f) (.sl false 162 (whereL f)) [.dead]:=(whereL_ok f h).2
noncomputable def S153:List (AV Ty)→T (AV Ty×List (AV Ty))
 |[.agg x]=>match cod33.dec false x with
  |some f=> .ite (wherePre f) (wherePre.dec f) (.ret (.sl false 162 (whereL f),[.dead])) .fail
  |none=> .fail
 |_=> .fail
theorem S153_ok (l:List (AV Ty)) (r:AV Ty) (outs:List (AV Ty)) (h:(S153 l).val=some (r,outs)):CallOk tb Try.prog 153 l r outs:=by
 unfold S153 at h
 split at h
 ·rename_i x
  split at h
  ·rename_i f e1
   rcases ite_val h with ⟨e,h⟩|⟨_,h⟩
   ·cases h
    have h1:=cod33_ok.dec false x f e1
    subst h1
    exact where_ok f e
   ·cases h
  ·cases h
 ·cases h
end Go.Proofs.Ytggibjbcbicpjaa.Ev
namespace Go.Proofs.Ytggibjbcbicpjaa.Ev
open Go
set_option linter.unusedVariables false
set_option linter.unusedSimpArgs false
def flowPre (f:Ev.Func):Prop:=okF f∧FnQ f
def FlowQ (f:Ev.Func):Prop:=(∀b,b<f.blocks.length→0<(f.blocks.getD b (Block.mk [])).ins.length)∧ ∀b,b<f.blocks.length→ ∀k,k<(f.blocks.getD b (Block.mk [])).ins.length→((f.blocks.getD b (Block.mk [])).ins.getD k (Ins.mk 0 0 0 0 0 [] [])).op=26→b≠0∧((f.blocks.getD b (Block.mk [])).ins.getD k (Ins.mk 0 0 0 0 0 [] [])).into=(prevL f).getD b []
theorem same3_eq {a b:List Int} (h:same3 a b=true):a=b:=by simpa [same3] using h
noncomputable def b128:Code:=bodyOf Try.f128
noncomputable def C128:Cfg Ty:=⟨fun
 |150=>some ([],S150)
 |151=>some ([],S151)
 |152=>some ([],S152)
 |29=>some ([],S29)
 |_=>none,fun _=>false,163,0⟩
def U128:Cuts:=⟨fun
 |0=>some [(1,none)]
 |1=>some [(1,none),(3,none)]
 |2=>some [(1,none),(3,none),(4,none)]
 |4=>some [(1,none),(3,none),(6,none)]
 |6=>some []
 |7=>some [(1,none),(8,none),(9,none),(10,none)]
 |8=>some [(1,none),(8,none),(9,none),(10,none)]
 |_=>none,fun
 |0=>some [(1,none),(3,none)]
 |2=>some [(1,none),(3,none),(4,none),(5,none)]
 |4=>some [(1,none),(3,none),(6,none),(7,none)]
 |6=>some [(1,none),(8,none),(9,none),(10,none)]
 |8=>some [(1,none),(8,none),(9,none),(10,none),(11,none),(12,none)]
 |_=>none,fun
 |16=>some [0,1,2,3,4,5,6,7,8,9,10,11,12,13,14,15,16]
 |18=>some [0,1,2,3,4,5,6,7,8,9,10,11,12,13]
 |20=>some [0,2,1,3,4,5]
 |30=>some [0,1,2,3,4,5,6,7,8,9,10,11,12,13,14,15,16,17,18,19,20,21,22]
 |_=>none⟩
noncomputable def k128_j0:List Item:=[.code (sndC (sndC b128))]
noncomputable def k128_l0:List Item:=[.code (inC (inC (sndC (fstC (sndC b128))))), .inLoop (inC (inC (sndC (fstC (sndC b128))))), .inBlock 0, .code (sndC (sndC b128))]
noncomputable def k128_j1:List Item:=[.code (sndC (sndC (inC (inC (sndC (fstC (sndC b128))))))), .inLoop (inC (inC (sndC (fstC (sndC b128))))), .inBlock 0, .code (sndC (sndC b128))]
noncomputable def k128_j2:List Item:=[.code (sndC (sndC (sndC (inC (fstC (sndC (inC (inC (sndC (fstC (sndC b128))))))))))), .inBlock 1, .code (sndC (sndC (inC (inC (sndC (fstC (sndC b128))))))), .inLoop (inC (inC (sndC (fstC (sndC b128))))), .inBlock 0, .code (sndC (sndC b128))]
noncomputable def k128_l2:List Item:=[.code (inC (inC (sndC (fstC (sndC (sndC (inC (fstC (sndC (inC (inC (sndC (fstC (sndC b128)))))))))))))), .inLoop (inC (inC (sndC (fstC (sndC (sndC (inC (fstC (sndC (inC (inC (sndC (fstC (sndC b128)))))))))))))), .inBlock 2, .code (sndC (sndC (sndC (inC (fstC (sndC (inC (inC (sndC (fstC (sndC b128))))))))))), .inBlock 1, .code (sndC (sndC (inC (inC (sndC (fstC (sndC b128))))))), .inLoop (inC (inC (sndC (fstC (sndC b128))))), .inBlock 0, .code (sndC (sndC b128))]
noncomputable def k128_j4:List Item:=[.code (sndC (sndC (sndC (sndC (sndC (inC (fstC (sndC (inC (inC (sndC (fstC (sndC b128))))))))))))), .inBlock 1, .code (sndC (sndC (inC (inC (sndC (fstC (sndC b128))))))), .inLoop (inC (inC (sndC (fstC (sndC b128))))), .inBlock 0, .code (sndC (sndC b128))]
noncomputable def k128_l4:List Item:=[.code (inC (inC (sndC (fstC (sndC (sndC (sndC (sndC (inC (fstC (sndC (inC (inC (sndC (fstC (sndC b128)))))))))))))))), .inLoop (inC (inC (sndC (fstC (sndC (sndC (sndC (sndC (inC (fstC (sndC (inC (inC (sndC (fstC (sndC b128)))))))))))))))), .inBlock 4, .code (sndC (sndC (sndC (sndC (sndC (inC (fstC (sndC (inC (inC (sndC (fstC (sndC b128))))))))))))), .inBlock 1, .code (sndC (sndC (inC (inC (sndC (fstC (sndC b128))))))), .inLoop (inC (inC (sndC (fstC (sndC b128))))), .inBlock 0, .code (sndC (sndC b128))]
noncomputable def k128_j6:List Item:=[.code (sndC (sndC (sndC (sndC b128))))]
noncomputable def k128_l6:List Item:=[.code (inC (inC (sndC (fstC (sndC (sndC (sndC b128))))))), .inLoop (inC (inC (sndC (fstC (sndC (sndC (sndC b128))))))), .inBlock 6, .code (sndC (sndC (sndC (sndC b128))))]
noncomputable def k128_j7:List Item:=[.code (sndC (sndC (inC (inC (sndC (fstC (sndC (sndC (sndC b128))))))))), .inLoop (inC (inC (sndC (fstC (sndC (sndC (sndC b128))))))), .inBlock 6, .code (sndC (sndC (sndC (sndC b128))))]
noncomputable def k128_j8:List Item:=[.inBlock 7, .code (sndC (sndC (inC (inC (sndC (fstC (sndC (sndC (sndC b128))))))))), .inLoop (inC (inC (sndC (fstC (sndC (sndC (sndC b128))))))), .inBlock 6, .code (sndC (sndC (sndC (sndC b128))))]
noncomputable def k128_l8:List Item:=[.code (inC (inC (sndC (sndC (sndC (inC (fstC (sndC (inC (inC (sndC (fstC (sndC (sndC (sndC b128))))))))))))))), .inLoop (inC (inC (sndC (sndC (sndC (inC (fstC (sndC (inC (inC (sndC (fstC (sndC (sndC (sndC b128))))))))))))))), .inBlock 8, .inBlock 7, .code (sndC (sndC (inC (inC (sndC (fstC (sndC (sndC (sndC b128))))))))), .inLoop (inC (inC (sndC (fstC (sndC (sndC (sndC b128))))))), .inBlock 6, .code (sndC (sndC (sndC (sndC b128))))]
def a128 (f:Func):List (AV Ty):=[.agg [.v (.string f.name), .v (.bool f.out), .sl false (3:Nat) f.params, .v (.int .i64 f.result), .sl false (44:Nat) f.blocks]]
noncomputable def R128 (f:Func):St Ty→EvR:=resT tb C128 Try.f128.results.toList .keep (a128 f)
def s128_l0 (f:Func) (v3:Int) (h0:List Func):St Ty:=St.mk [(1, .ptr (0) [] (0) (0)),(3, .v (.int .i64 v3))] [some (Root.mk (33) false h0)]
def s128_l2 (f:Func) (v3:Int) (v4:List Ins) (v5:Int) (h0:List Func):St Ty:=St.mk [(1, .ptr (0) [] (0) (0)),(3, .v (.int .i64 v3)),(4, .sl false (46) v4),(5, .v (.int .i64 v5))] [some (Root.mk (33) false h0)]
def s128_j0 (f:Func) (h0:List Func):St Ty:=St.mk [(1, .ptr (0) [] (0) (0))] [some (Root.mk (33) false h0)]
def s128_j2 (f:Func) (v3:Int) (v4:List Ins) (h0:List Func):St Ty:=St.mk [(1, .ptr (0) [] (0) (0)),(3, .v (.int .i64 v3)),(4, .sl false (46) v4)] [some (Root.mk (33) false h0)]
def s128_l6 (f:Func) (v8:List Bool) (v9:List (List Int)) (v10:Int) (h0:List Func):St Ty:=St.mk [(1, .ptr (0) [] (0) (0)),(8, .sl false (4) v8),(9, .sl false (30) v9),(10, .v (.int .i64 v10))] [some (Root.mk (33) false h0)]
def s128_l4 (f:Func) (v3:Int) (v7:Int) (h0:List Func) (h1:List Ins):St Ty:=St.mk [(1, .ptr (0) [] (0) (0)),(3, .v (.int .i64 v3)),(6, .ptr (1) [] (0) (0)),(7, .v (.int .i64 v7))] [some (Root.mk (33) false h0),some (Root.mk (46) false h1)]
def s128_l8 (f:Func) (v8:List Bool) (v9:List (List Int)) (v10:Int) (v11:List Ins) (v12:Int) (h0:List Func):St Ty:=St.mk [(1, .ptr (0) [] (0) (0)),(8, .sl false (4) v8),(9, .sl false (30) v9),(10, .v (.int .i64 v10)),(11, .sl false (46) v11),(12, .v (.int .i64 v12))] [some (Root.mk (33) false h0)]
def s128_j6 (f:Func):St Ty:=St.mk [] []
def s128_j4 (f:Func) (v3:Int) (h0:List Func) (h1:List Ins):St Ty:=St.mk [(1, .ptr (0) [] (0) (0)),(3, .v (.int .i64 v3)),(6, .ptr (1) [] (0) (0))] [some (Root.mk (33) false h0),some (Root.mk (46) false h1)]
def s128_j8 (f:Func) (v8:List Bool) (v9:List (List Int)) (v10:Int) (h0:List Func):St Ty:=St.mk [(1, .ptr (0) [] (0) (0)),(8, .sl false (4) v8),(9, .sl false (30) v9),(10, .v (.int .i64 v10))] [some (Root.mk (33) false h0)]
def s128_j1 (f:Func) (v3:Int) (h0:List Func):St Ty:=St.mk [(1, .ptr (0) [] (0) (0)),(3, .v (.int .i64 v3))] [some (Root.mk (33) false h0)]
def s128_j7 (f:Func) (v8:List Bool) (v9:List (List Int)) (v10:Int) (h0:List Func):St Ty:=St.mk [(1, .ptr (0) [] (0) (0)),(8, .sl false (4) v8),(9, .sl false (30) v9),(10, .v (.int .i64 v10))] [some (Root.mk (33) false h0)]
theorem e128 (J f):run tb C128 U128 J (R128 f) 4096 [.code b128] ⟨slotsA (a128 f) 0 0,heapA (a128 f)⟩=
 J k128_l0 (s128_l0 f 0 ([Func.mk f.name f.out f.params f.result f.blocks])):=by kernel_rfl
theorem e128_l0 (J f v3 h0):run tb C128 U128 J (R128 f) 4096 k128_l0 (s128_l0 f v3 h0)=
 if decide (v3<(↑(h0.getD (0) (Func.mk ByteArray.empty false [] 0 [])).blocks.length:Int))=true then
 if 0≤v3 then
 if v3<(↑(h0.getD (0) (Func.mk ByteArray.empty false [] 0 [])).blocks.length:Int) then
 if ((↑((h0.getD (0) (Func.mk ByteArray.empty false [] 0 [])).blocks.getD v3.toNat (Block.mk [])).ins.length:Int) == 0)=true then
 some (.v (.bool false),[.dead])
 else
 J k128_l2 (s128_l2 f v3 (((h0.getD (0) (Func.mk ByteArray.empty false [] 0 [])).blocks.getD v3.toNat (Block.mk [])).ins) 0 h0)
 else none
 else none
 else
 J k128_j0 (s128_j0 f h0):=by kernel_rfl
theorem e128_l2 (J f v3 v4 v5 h0):run tb C128 U128 J (R128 f) 4096 k128_l2 (s128_l2 f v3 v4 v5 h0)=
 if decide (v5<(↑v4.length:Int))=true then
 if 0≤v5 then
 if v5<(↑v4.length:Int) then
 if (!endsB (v4.getD v5.toNat (Ins.mk 0 0 0 0 0 [] [])).op == (v5 == IntKind.i64.wrap ((↑v4.length:Int)-1)))=false then
 if decide (v5>0)=true then
 if 0≤v5 then
 if v5<(↑v4.length:Int) then
 if ((v4.getD v5.toNat (Ins.mk 0 0 0 0 0 [] [])).op == 26)=true then
 if 0≤IntKind.i64.wrap (v5-1) then
 if IntKind.i64.wrap (v5-1)<(↑v4.length:Int) then
 if ((v4.getD (IntKind.i64.wrap (v5-1)).toNat (Ins.mk 0 0 0 0 0 [] [])).op != 26)=true then
 some (.v (.bool false),[.dead])
 else
 J k128_l2 (s128_l2 f v3 v4 (IntKind.i64.wrap (v5+1)) h0)
 else none
 else none
 else
 J k128_l2 (s128_l2 f v3 v4 (IntKind.i64.wrap (v5+1)) h0)
 else none
 else none
 else
 J k128_l2 (s128_l2 f v3 v4 (IntKind.i64.wrap (v5+1)) h0)
 else
 some (.v (.bool false),[.dead])
 else none
 else none
 else
 J k128_j2 (s128_j2 f v3 v4 h0):=by kernel_rfl
theorem e128_j0 (J f h0):run tb C128 U128 J (R128 f) 4096 k128_j0 (s128_j0 f h0)=
 if okF (Func.mk (h0.getD (0) (Func.mk ByteArray.empty false [] 0 [])).name (h0.getD (0) (Func.mk ByteArray.empty false [] 0 [])).out (h0.getD (0) (Func.mk ByteArray.empty false [] 0 [])).params (h0.getD (0) (Func.mk ByteArray.empty false [] 0 [])).result (h0.getD (0) (Func.mk ByteArray.empty false [] 0 [])).blocks) then
 if okF (Func.mk (h0.getD (0) (Func.mk ByteArray.empty false [] 0 [])).name (h0.getD (0) (Func.mk ByteArray.empty false [] 0 [])).out (h0.getD (0) (Func.mk ByteArray.empty false [] 0 [])).params (h0.getD (0) (Func.mk ByteArray.empty false [] 0 [])).result (h0.getD (0) (Func.mk ByteArray.empty false [] 0 [])).blocks) then
 J k128_l6 (s128_l6 f (reachL (Func.mk (h0.getD (0) (Func.mk ByteArray.empty false [] 0 [])).name (h0.getD (0) (Func.mk ByteArray.empty false [] 0 [])).out (h0.getD (0) (Func.mk ByteArray.empty false [] 0 [])).params (h0.getD (0) (Func.mk ByteArray.empty false [] 0 [])).result (h0.getD (0) (Func.mk ByteArray.empty false [] 0 [])).blocks)) (prevL (Func.mk (h0.getD (0) (Func.mk ByteArray.empty false [] 0 [])).name (h0.getD (0) (Func.mk ByteArray.empty false [] 0 [])).out (h0.getD (0) (Func.mk ByteArray.empty false [] 0 [])).params (h0.getD (0) (Func.mk ByteArray.empty false [] 0 [])).result (h0.getD (0) (Func.mk ByteArray.empty false [] 0 [])).blocks)) 0 h0)
 else none
 else none:=by kernel_rfl
theorem e128_j2 (J f v3 v4 h0):run tb C128 U128 J (R128 f) 4096 k128_j2 (s128_j2 f v3 v4 h0)=
 if 0≤IntKind.i64.wrap ((↑v4.length:Int)-1) then
 if IntKind.i64.wrap ((↑v4.length:Int)-1)<(↑v4.length:Int) then
 J k128_l4 (s128_l4 f v3 0 h0 ([Ins.mk (v4.getD (IntKind.i64.wrap ((↑v4.length:Int)-1)).toNat (Ins.mk 0 0 0 0 0 [] [])).op (v4.getD (IntKind.i64.wrap ((↑v4.length:Int)-1)).toNat (Ins.mk 0 0 0 0 0 [] [])).type_ (v4.getD (IntKind.i64.wrap ((↑v4.length:Int)-1)).toNat (Ins.mk 0 0 0 0 0 [] [])).to_ (v4.getD (IntKind.i64.wrap ((↑v4.length:Int)-1)).toNat (Ins.mk 0 0 0 0 0 [] [])).sym_ (v4.getD (IntKind.i64.wrap ((↑v4.length:Int)-1)).toNat (Ins.mk 0 0 0 0 0 [] [])).num (v4.getD (IntKind.i64.wrap ((↑v4.length:Int)-1)).toNat (Ins.mk 0 0 0 0 0 [] [])).args (v4.getD (IntKind.i64.wrap ((↑v4.length:Int)-1)).toNat (Ins.mk 0 0 0 0 0 [] [])).into]))
 else none
 else none:=by kernel_rfl
theorem e128_l6 (J f v8 v9 v10 h0):run tb C128 U128 J (R128 f) 4096 k128_l6 (s128_l6 f v8 v9 v10 h0)=
 if decide (v10<(↑(h0.getD (0) (Func.mk ByteArray.empty false [] 0 [])).blocks.length:Int))=true then
 if 0≤v10 then
 if v10<(↑v8.length:Int) then
 if (!v8.getD v10.toNat false)=true then
 some (.v (.bool false),[.dead])
 else
 if 0≤v10 then
 if v10<(↑(h0.getD (0) (Func.mk ByteArray.empty false [] 0 [])).blocks.length:Int) then
 J k128_l8 (s128_l8 f v8 v9 v10 (((h0.getD (0) (Func.mk ByteArray.empty false [] 0 [])).blocks.getD v10.toNat (Block.mk [])).ins) 0 h0)
 else none
 else none
 else none
 else none
 else
 J k128_j6 (s128_j6 f):=by kernel_rfl
theorem e128_l4 (J f v3 v7 h0 h1):run tb C128 U128 J (R128 f) 4096 k128_l4 (s128_l4 f v3 v7 h0 h1)=
 if decide (v7<(↑(h1.getD (0) (Ins.mk 0 0 0 0 0 [] [])).into.length:Int))=true then
 if 0≤v7 then
 if v7<(↑(h1.getD (0) (Ins.mk 0 0 0 0 0 [] [])).into.length:Int) then
 if decide ((h1.getD (0) (Ins.mk 0 0 0 0 0 [] [])).into.getD v7.toNat 0<1)=false then
 if 0≤v7 then
 if v7<(↑(h1.getD (0) (Ins.mk 0 0 0 0 0 [] [])).into.length:Int) then
 if decide ((h1.getD (0) (Ins.mk 0 0 0 0 0 [] [])).into.getD v7.toNat 0≥(↑(h0.getD (0) (Func.mk ByteArray.empty false [] 0 [])).blocks.length:Int))=true then
 some (.v (.bool false),[.dead])
 else
 J k128_l4 (s128_l4 f v3 (IntKind.i64.wrap (v7+1)) h0 h1)
 else none
 else none
 else
 some (.v (.bool false),[.dead])
 else none
 else none
 else
 J k128_j4 (s128_j4 f v3 h0 h1):=by kernel_rfl
theorem e128_l8 (J f v8 v9 v10 v11 v12 h0):run tb C128 U128 J (R128 f) 4096 k128_l8 (s128_l8 f v8 v9 v10 v11 v12 h0)=
 if decide (v12<(↑v11.length:Int))=true then
 if 0≤v12 then
 if v12<(↑v11.length:Int) then
 if ((v11.getD v12.toNat (Ins.mk 0 0 0 0 0 [] [])).op == 26)=true then
 if (v10 == 0)=false then
 if 0≤v12 then
 if v12<(↑v11.length:Int) then
 if 0≤v10 then
 if v10<(↑v9.length:Int) then
 if (v11.getD v12.toNat (Ins.mk 0 0 0 0 0 [] [])).into.length≤4611686018427387904 then
 if (!same3 (v11.getD v12.toNat (Ins.mk 0 0 0 0 0 [] [])).into (v9.getD v10.toNat []))=true then
 some (.v (.bool false),[.dead])
 else
 J k128_l8 (s128_l8 f v8 v9 v10 v11 (IntKind.i64.wrap (v12+1)) h0)
 else none
 else none
 else none
 else none
 else none
 else
 some (.v (.bool false),[.dead])
 else
 J k128_l8 (s128_l8 f v8 v9 v10 v11 (IntKind.i64.wrap (v12+1)) h0)
 else none
 else none
 else
 J k128_j8 (s128_j8 f v8 v9 v10 h0):=by kernel_rfl
theorem e128_j6 (J f):run tb C128 U128 J (R128 f) 4096 k128_j6 (s128_j6 f)=
 some (.v (.bool true),[.dead]):=by kernel_rfl
theorem e128_j4 (J f v3 h0 h1):run tb C128 U128 J (R128 f) 4096 k128_j4 (s128_j4 f v3 h0 h1)=
 if ((h1.getD (0) (Ins.mk 0 0 0 0 0 [] [])).op == 28)=true then
 if 0<(↑(h1.getD (0) (Ins.mk 0 0 0 0 0 [] [])).into.length:Int) then
 if 1<(↑(h1.getD (0) (Ins.mk 0 0 0 0 0 [] [])).into.length:Int) then
 if ((h1.getD (0) (Ins.mk 0 0 0 0 0 [] [])).into.getD (Int.toNat 0) 0 == (h1.getD (0) (Ins.mk 0 0 0 0 0 [] [])).into.getD (Int.toNat 1) 0)=true then
 some (.v (.bool false),[.dead])
 else
 J k128_j1 (s128_j1 f v3 h0)
 else none
 else none
 else
 J k128_j1 (s128_j1 f v3 h0):=by kernel_rfl
theorem e128_j8 (J f v8 v9 v10 h0):run tb C128 U128 J (R128 f) 4096 k128_j8 (s128_j8 f v8 v9 v10 h0)=
 J k128_j7 (s128_j7 f v8 v9 v10 h0):=by kernel_rfl
theorem e128_j1 (J f v3 h0):run tb C128 U128 J (R128 f) 4096 k128_j1 (s128_j1 f v3 h0)=
 J k128_l0 (s128_l0 f (IntKind.i64.wrap (v3+1)) h0):=by kernel_rfl
theorem e128_j7 (J f v8 v9 v10 h0):run tb C128 U128 J (R128 f) 4096 k128_j7 (s128_j7 f v8 v9 v10 h0)=
 J k128_l6 (s128_l6 f v8 v9 (IntKind.i64.wrap (v10+1)) h0):=by kernel_rfl

theorem in128:Entered 128:=⟨Try.f128,b128,by kernel_rfl,by kernel_rfl,by kernel_rfl⟩
theorem fn128 (f:Ev.Func) {res:AV Ty} {outs:List (AV Ty)} (h:Ends C128 U128 (R128 f) [.code b128] ⟨slotsA (a128 f) 0 0,heapA (a128 f)⟩ (some (res,outs))):CallOk tb Try.prog 128 (a128 f) res outs:=by
 obtain ⟨n0,hn⟩:=h
 exact fn_ok (C:=C128) (U:=U128) (n:=0+n0) (q:= .keep) tbOk good (fun f mu S h=>by
  unfold C128 at h
  simp only at h
  split at h
  ·cases h;exact ⟨in150,S150_ok⟩
  ·cases h;exact ⟨in151,S151_ok⟩
  ·cases h;exact ⟨in152,S152_ok⟩
  ·cases h;exact ⟨in29,S29_ok⟩
  ·cases h) mixed (fn:=Try.f128) (body:=b128) (by kernel_rfl) (by kernel_rfl) rfl rfl (by show 1≤163;omega) (hn 0)
section
variable {f:Ev.Func}
theorem Flows.i {b k:Nat} {l:List Ev.Ins} (hl:l.length≤1000) (hk:k<l.length):Way C128 U128 (R128 f) (rD false) k128_l2 (s128_l2 f b l k [f]) k128_l2 (s128_l2 f b l (k+1:Nat) [f]) True:=by
 have w1:IntKind.i64.wrap ((k:Int)-1)=(k:Int)-1:=wrap_up (by omega)
 refine Way.of (fun J=>e128_l2 J f b l k [f]) ?_
 have w:IntKind.i64.wrap ((k:Int)+1)=((k+1:Nat):Int):=wrap_nat (by omega) (by omega)
 simp only [w1,List.getD_cons_zero,Int.toNat_natCast,w]
 repeat' first|refine tree_qt (fun _=> ?_) (fun _=> ?_)|refine tree_qf (fun _=> ?_) (fun _=> ?_)|refine tree_nt (fun _=> ?_) (fun _=> ?_)|refine tree_nf (fun _=> ?_) (fun _=> ?_)|refine tree_et (fun _=> ?_) (fun _=> ?_)|refine tree_ef (fun _=> ?_) (fun _=> ?_)|refine tree_dt (fun _=> ?_) (fun _=> ?_)|refine tree_df (fun _=> ?_) (fun _=> ?_)|refine tree_bt (fun _=> ?_) (fun _=> ?_)|refine tree_bf (fun _=> ?_) (fun _=> ?_)|refine tree_ite (fun _=> ?_) (fun _=> ?_)
 all_goals first|exact WayT.no (fun J=>rfl)|exact WayT.yes (fun J=>rfl) (trivial)|(exfalso;omega)
theorem Flows.n {b k:Nat} {x:Ev.Ins} (hl:x.into.length≤1000) (hk:k<x.into.length):Way C128 U128 (R128 f) (rD false) k128_l4 (s128_l4 f b k [f] [x]) k128_l4 (s128_l4 f b (k+1:Nat) [f] [x]) True:=by
 refine Way.of (fun J=>e128_l4 J f b k [f] [x]) ?_
 have w:IntKind.i64.wrap ((k:Int)+1)=((k+1:Nat):Int):=wrap_nat (by omega) (by omega)
 simp only [List.getD_cons_zero,Int.toNat_natCast,w]
 repeat' first|refine tree_qt (fun _=> ?_) (fun _=> ?_)|refine tree_qf (fun _=> ?_) (fun _=> ?_)|refine tree_nt (fun _=> ?_) (fun _=> ?_)|refine tree_nf (fun _=> ?_) (fun _=> ?_)|refine tree_et (fun _=> ?_) (fun _=> ?_)|refine tree_ef (fun _=> ?_) (fun _=> ?_)|refine tree_dt (fun _=> ?_) (fun _=> ?_)|refine tree_df (fun _=> ?_) (fun _=> ?_)|refine tree_bt (fun _=> ?_) (fun _=> ?_)|refine tree_bf (fun _=> ?_) (fun _=> ?_)|refine tree_ite (fun _=> ?_) (fun _=> ?_)
 all_goals first|exact WayT.no (fun J=>rfl)|exact WayT.yes (fun J=>rfl) (trivial)|(exfalso;omega)
theorem Flows.b (h:flowPre f) {b:Nat} (hb:b<f.blocks.length):Way C128 U128 (R128 f) (rD false) k128_l0 (s128_l0 f b [f]) k128_l0 (s128_l0 f (b+1:Nat) [f]) (0<(f.blocks.getD b (Block.mk [])).ins.length):=by
 obtain ⟨hf,hq⟩:=h
 have h0:=hf.2.1
 have h1:=hf.b hb
 refine (Way.trans (k':=k128_l2) (s':=s128_l2 f b (f.blocks.getD b (Block.mk [])).ins (0:Nat) [f]) (Q:=0<(f.blocks.getD b (Block.mk [])).ins.length) (Q':=True) ?_ fun hn=> ?_).mono fun q=>q.1
 ·refine Way.of (fun J=>e128_l0 J f b [f]) ?_
  simp only [List.getD_cons_zero,Int.toNat_natCast]
  repeat' first|refine tree_qt (fun _=> ?_) (fun _=> ?_)|refine tree_qf (fun _=> ?_) (fun _=> ?_)|refine tree_nt (fun _=> ?_) (fun _=> ?_)|refine tree_nf (fun _=> ?_) (fun _=> ?_)|refine tree_et (fun _=> ?_) (fun _=> ?_)|refine tree_ef (fun _=> ?_) (fun _=> ?_)|refine tree_dt (fun _=> ?_) (fun _=> ?_)|refine tree_df (fun _=> ?_) (fun _=> ?_)|refine tree_bt (fun _=> ?_) (fun _=> ?_)|refine tree_bf (fun _=> ?_) (fun _=> ?_)|refine tree_ite (fun _=> ?_) (fun _=> ?_)
  all_goals first|exact WayT.no (fun J=>rfl)|exact WayT.yes (fun J=>rfl) (by omega)|(exfalso;omega)
 have hx:=hq b hb _ (show (f.blocks.getD b (Block.mk [])).ins.length-1<_ by omega)
 have hx2:=((hf.2.2 _ (getD_mem (d:=(Block.mk [])) hb)).2 _ (getD_mem (d:=(Ins.mk 0 0 0 0 0 [] [])) (show (f.blocks.getD b (Block.mk [])).ins.length-1<_ by omega))).2
 have wl:IntKind.i64.wrap (((f.blocks.getD b (Block.mk [])).ins.length:Int)-1)=(((f.blocks.getD b (Block.mk [])).ins.length-1:Nat):Int):=wrap_nat (by omega) (by omega)
 have ww:IntKind.i64.wrap ((b:Int)+1)=((b+1:Nat):Int):=wrap_nat (by omega) (by omega)
 refine (Way.trans (k':=k128_l4) (s':=s128_l4 f b (0:Nat) [f] [(f.blocks.getD b (Block.mk [])).ins.getD ((f.blocks.getD b (Block.mk [])).ins.length-1) (Ins.mk 0 0 0 0 0 [] [])]) (((Way.upto (fun k=>s128_l2 f b (f.blocks.getD b (Block.mk [])).ins k [f]) _ (fun _=>True) (fun k hk _=>Flows.i h1 hk) _ (Nat.le_refl _)).mono fun _=>trivial).then fun _=> ?_) (Q:=True) (Q':=True) fun _=> ?_).mono fun _=>trivial
 ·refine Goes.trans (k':=k128_j2) (s':=s128_j2 f b (f.blocks.getD b (Block.mk [])).ins [f]) (.step fun J=> ?_) (.step fun J=> ?_)
  ·rw [e128_l2]
   simp (disch:=first|omega|assumption|(rw [dT];omega)|(rw [dF];omega)) only [↓iP,↓iN,iT,iF,wrap_up,tN,Nat.zero_add]
  ·rw [e128_j2,wl]
   simp only [Int.toNat_natCast]
   simp (disch:=first|omega|assumption|(rw [dT];omega)|(rw [dF];omega)) only [↓iP,↓iN,iT,iF,wrap_up,tN,Nat.zero_add]
   rfl
 generalize (f.blocks.getD b (Block.mk [])).ins.getD ((f.blocks.getD b (Block.mk [])).ins.length-1) (Ins.mk 0 0 0 0 0 [] [])=x at*
 refine (Way.trans (k':=k128_j4) (s':=s128_j4 f b [f] [x]) (((Way.upto (fun k=>s128_l4 f b k [f] [x]) _ (fun _=>True) (fun k hk _=>Flows.n hx2 hk) _ (Nat.le_refl _)).mono fun _=>trivial).then fun _=> ?_) (Q:=True) (Q':=True) fun _=> ?_).mono fun _=>trivial
 ·refine .step fun J=> ?_
  rw [e128_l4]
  simp only [List.getD_cons_zero]
  simp (disch:=first|omega|assumption|(rw [dT];omega)|(rw [dF];omega)) only [↓iP,↓iN,iT,iF,wrap_up,tN,Nat.zero_add]
 have hi:x.op=28→x.into.length=2:=fun e=>by
  have:=hx.1.2.2.2.2.2.1
  rw [e] at this
  have:=this (by decide)
  have e2:markI 28=2:=rfl
  omega
 refine (Way.of (k':=k128_j1) (s':=s128_j1 f b [f]) (fun J=>e128_j4 J f b [f] [x]) ?_).then fun _=> .step fun J=>by rw [e128_j1,ww]
 simp only [List.getD_cons_zero]
 repeat' first|refine tree_qt (fun _=> ?_) (fun _=> ?_)|refine tree_qf (fun _=> ?_) (fun _=> ?_)|refine tree_nt (fun _=> ?_) (fun _=> ?_)|refine tree_nf (fun _=> ?_) (fun _=> ?_)|refine tree_et (fun _=> ?_) (fun _=> ?_)|refine tree_ef (fun _=> ?_) (fun _=> ?_)|refine tree_dt (fun _=> ?_) (fun _=> ?_)|refine tree_df (fun _=> ?_) (fun _=> ?_)|refine tree_bt (fun _=> ?_) (fun _=> ?_)|refine tree_bf (fun _=> ?_) (fun _=> ?_)|refine tree_ite (fun _=> ?_) (fun _=> ?_)
 all_goals first|exact WayT.no (fun J=>rfl)|exact WayT.yes (fun J=>rfl) trivial|(exfalso;omega)
theorem Flows.p {b k:Nat} {l:List Ev.Ins} (hl:l.length≤1000) (hk:k<l.length) (hb:b<(prevL f).length) (hi:(l.getD k (Ins.mk 0 0 0 0 0 [] [])).into.length≤1000):Way C128 U128 (R128 f) (rD false) k128_l8 (s128_l8 f (reachL f) (prevL f) b l k [f]) k128_l8 (s128_l8 f (reachL f) (prevL f) b l (k+1:Nat) [f]) ((l.getD k (Ins.mk 0 0 0 0 0 [] [])).op=26→b≠0∧(l.getD k (Ins.mk 0 0 0 0 0 [] [])).into=(prevL f).getD b []):=by
 refine Way.of (fun J=>e128_l8 J f (reachL f) (prevL f) b l k [f]) ?_
 have w:IntKind.i64.wrap ((k:Int)+1)=((k+1:Nat):Int):=wrap_nat (by omega) (by omega)
 simp only [List.getD_cons_zero,Int.toNat_natCast,w]
 repeat' first|refine tree_qt (fun _=> ?_) (fun _=> ?_)|refine tree_qf (fun _=> ?_) (fun _=> ?_)|refine tree_nt (fun _=> ?_) (fun _=> ?_)|refine tree_nf (fun _=> ?_) (fun _=> ?_)|refine tree_et (fun _=> ?_) (fun _=> ?_)|refine tree_ef (fun _=> ?_) (fun _=> ?_)|refine tree_dt (fun _=> ?_) (fun _=> ?_)|refine tree_df (fun _=> ?_) (fun _=> ?_)|refine tree_bt (fun _=> ?_) (fun _=> ?_)|refine tree_bf (fun _=> ?_) (fun _=> ?_)|refine tree_ite (fun _=> ?_) (fun _=> ?_)
 all_goals first|exact WayT.no (fun J=>rfl)|exact WayT.yes (fun J=>rfl) (fun _=>⟨by omega,same3_eq ‹_›⟩)|(exfalso;omega)|exact WayT.yes (fun J=>rfl) (fun e=>absurd e (by omega))
theorem Flows.r (h:flowPre f) {b:Nat} (hb:b<f.blocks.length):Way C128 U128 (R128 f) (rD false) k128_l6 (s128_l6 f (reachL f) (prevL f) b [f]) k128_l6 (s128_l6 f (reachL f) (prevL f) (b+1:Nat) [f]) (∀k,k<(f.blocks.getD b (Block.mk [])).ins.length→((f.blocks.getD b (Block.mk [])).ins.getD k (Ins.mk 0 0 0 0 0 [] [])).op=26→b≠0∧((f.blocks.getD b (Block.mk [])).ins.getD k (Ins.mk 0 0 0 0 0 [] [])).into=(prevL f).getD b []):=by
 obtain ⟨hf,hq⟩:=h
 have h0:=hf.2.1
 have h1:=hf.b hb
 have hr:(reachL f).length=f.blocks.length:=(fromL_ok hf 0 (-1)).1
 have hp:(prevL f).length=f.blocks.length:=(prevL_in hf).1
 have ww:IntKind.i64.wrap ((b:Int)+1)=((b+1:Nat):Int):=wrap_nat (by omega) (by omega)
 refine (Way.trans (k':=k128_l8) (s':=s128_l8 f (reachL f) (prevL f) b (f.blocks.getD b (Block.mk [])).ins (0:Nat) [f]) (Q:=True) ?_ fun _=> ?_).mono fun q=>q.2
 ·refine Way.of (fun J=>e128_l6 J f (reachL f) (prevL f) b [f]) ?_
  simp only [List.getD_cons_zero,Int.toNat_natCast]
  repeat' first|refine tree_qt (fun _=> ?_) (fun _=> ?_)|refine tree_qf (fun _=> ?_) (fun _=> ?_)|refine tree_nt (fun _=> ?_) (fun _=> ?_)|refine tree_nf (fun _=> ?_) (fun _=> ?_)|refine tree_et (fun _=> ?_) (fun _=> ?_)|refine tree_ef (fun _=> ?_) (fun _=> ?_)|refine tree_dt (fun _=> ?_) (fun _=> ?_)|refine tree_df (fun _=> ?_) (fun _=> ?_)|refine tree_bt (fun _=> ?_) (fun _=> ?_)|refine tree_bf (fun _=> ?_) (fun _=> ?_)|refine tree_ite (fun _=> ?_) (fun _=> ?_)
  all_goals first|exact WayT.no (fun J=>rfl)|exact WayT.yes (fun J=>rfl) (trivial)|(exfalso;omega)
 refine (Way.upto (fun k=>s128_l8 f (reachL f) (prevL f) b (f.blocks.getD b (Block.mk [])).ins k [f]) _ _ (fun k hk _=>Flows.p h1 hk (by omega) ((hf.2.2 _ (getD_mem (d:=(Block.mk [])) hb)).2 _ (getD_mem (d:=(Ins.mk 0 0 0 0 0 [] [])) hk)).2) _ (Nat.le_refl _)).then fun _=> ?_
 refine Goes.trans (k':=k128_j8) (s':=s128_j8 f (reachL f) (prevL f) b [f]) (.step fun J=> ?_) (.trans (.step fun J=>e128_j8 ..) (.step fun J=> ?_))
 ·rw [e128_l8]
  simp (disch:=first|omega|assumption|(rw [dT];omega)|(rw [dF];omega)) only [↓iP,↓iN,iT,iF,wrap_up,tN,Nat.zero_add]
 ·rw [e128_j7,ww]
theorem flows_ok (h:flowPre f): ∃b,Tells 128 (a128 f) [.dead] (FlowQ f) b:=by
 have hf:=h.1
 have e0:(Func.mk f.name f.out f.params f.result f.blocks)=f:=rfl
 have:Says C128 U128 (R128 f) rD [.code b128] ⟨slotsA (a128 f) 0 0,heapA (a128 f)⟩ (FlowQ f):=by
  refine Goes.says (k':=k128_l0) (s':=s128_l0 f (0:Nat) [f]) (.step fun J=>e128 ..) ?_
  refine Way.says (Way.upto (fun b=>s128_l0 f b [f]) _ _ (fun b hb _=>Flows.b h hb) _ (Nat.le_refl _)) fun _=> ?_
  refine Goes.says (k':=k128_l6) (s':=s128_l6 f (reachL f) (prevL f) (0:Nat) [f]) (.trans (k':=k128_j0) (s':=s128_j0 f [f]) (.step fun J=> ?_) (.step fun J=> ?_)) ?_
  ·rw [e128_l0]
   simp only [List.getD_cons_zero]
   simp (disch:=first|omega|assumption|(rw [dT];omega)|(rw [dF];omega)) only [↓iP,↓iN,iT,iF,wrap_up,tN,Nat.zero_add]
  ·rw [e128_j0]
   simp only [List.getD_cons_zero]
   rw [e0]
   simp (disch:=first|omega|assumption|(rw [dT];omega)|(rw [dF];omega)) only [↓iP,↓iN,iT,iF,wrap_up,tN,Nat.zero_add,hf]
   rfl
  refine (Way.says (Q':=True) (Way.upto (fun b=>s128_l6 f (reachL f) (prevL f) b [f]) _ _ (fun b hb _=>Flows.r h hb) _ (Nat.le_refl _)) fun _=> ?_).mono fun q=>q.1
  refine Goes.says (k':=k128_j6) (s':=s128_j6 f) (.step fun J=> ?_) (.yes (.step fun J=>e128_j6 ..) trivial)
  rw [e128_l6]
  simp only [List.getD_cons_zero]
  simp (disch:=first|omega|assumption|(rw [dT];omega)|(rw [dF];omega)) only [↓iP,↓iN,iT,iF,wrap_up,tN,Nat.zero_add]
 obtain ⟨b,h1,h2⟩:=this
 exact ⟨b,fn128 f h1,h2⟩
end
noncomputable def flowsB (f:Ev.Func):Bool:=told 128 (a128 f) [.dead] (FlowQ f)
theorem flowsB_ok (f:Ev.Func) (h:flowPre f):CallOk tb Try.prog 128 (a128 f) (.v (.bool (flowsB f))) [.dead]:=(told_ok (flows_ok h)).1
noncomputable def S128:List (AV Ty)→T (AV Ty×List (AV Ty))
 |[.agg x]=>match cod33.dec false x with
  |some f=> .ite (flowPre f) (Classical.propDecidable _) (.ret (.v (.bool (flowsB f)),[.dead])) .fail
  |none=> .fail
 |_=> .fail
theorem S128_ok (l:List (AV Ty)) (r:AV Ty) (outs:List (AV Ty)) (h:(S128 l).val=some (r,outs)):CallOk tb Try.prog 128 l r outs:=by
 unfold S128 at h
 split at h
 ·rename_i x
  split at h
  ·rename_i f e1
   rcases ite_val h with ⟨e,h⟩|⟨_,h⟩
   ·cases h
    have h1:=cod33_ok.dec false x f e1
    subst h1
    exact flowsB_ok f e
   ·cases h
  ·cases h
 ·cases h
end Go.Proofs.Ytggibjbcbicpjaa.Ev
namespace Go.Proofs.Ytggibjbcbicpjaa.Ev
open Go
set_option linter.unusedVariables false
set_option linter.unusedSimpArgs false
def usesPre (f:Ev.Func):Prop:=wherePre f∧FnQ f∧FlowQ f
def ToQ (f:Ev.Func):Prop:= ∀b,b<f.blocks.length→ ∀k,k<(f.blocks.getD b (Block.mk [])).ins.length→((f.blocks.getD b (Block.mk [])).ins.getD k (Ins.mk 0 0 0 0 0 [] [])).type_≠0→((f.blocks.getD b (Block.mk [])).ins.getD k (Ins.mk 0 0 0 0 0 [] [])).to_=loc f b (k+1)
def ArgQ (f:Ev.Func):Prop:= ∀b,b<f.blocks.length→ ∀k,k<(f.blocks.getD b (Block.mk [])).ins.length→ ∀j,j<((f.blocks.getD b (Block.mk [])).ins.getD k (Ins.mk 0 0 0 0 0 [] [])).args.length→1≤((f.blocks.getD b (Block.mk [])).ins.getD k (Ins.mk 0 0 0 0 0 [] [])).args.getD j 0∧((f.blocks.getD b (Block.mk [])).ins.getD k (Ins.mk 0 0 0 0 0 [] [])).args.getD j 0<(typesOf f).length
theorem loc_end {f:Ev.Func} (hf:okF f):loc f f.blocks.length 0+1=(typesOf f).length:=by
 rw [loc_zero,List.take_length,(types_len hf).1]
 omega
noncomputable def b129:Code:=bodyOf Try.f129
noncomputable def C129:Cfg Ty:=⟨fun
 |153=>some ([],S153)
 |154=>some ([],S154)
 |_=>none,fun _=>false,154,0⟩
def U129:Cuts:=⟨fun
 |0=>some [(1,none),(3,none)]
 |1=>some [(1,none),(3,none),(4,none)]
 |2=>some [(1,none),(3,none),(4,none)]
 |4=>some []
 |5=>some [(1,none),(3,none),(7,none),(8,none),(9,none)]
 |6=>some [(1,none),(3,none),(7,none),(8,none),(9,none)]
 |7=>some [(1,none),(3,none),(7,none),(8,none),(9,none),(10,none)]
 |8=>some [(1,none),(3,none),(7,none),(8,none),(9,none),(10,none)]
 |9=>some [(1,none),(3,none),(7,none),(8,none),(9,none),(10,none),(11,none),(12,none)]
 |_=>none,fun
 |0=>some [(1,none),(3,none),(4,none)]
 |2=>some [(1,none),(3,none),(4,none),(5,none)]
 |4=>some [(1,none),(3,none),(7,none),(8,none),(9,none)]
 |6=>some [(1,none),(3,none),(7,none),(8,none),(9,none),(10,none)]
 |8=>some [(1,none),(3,none),(7,none),(8,none),(9,none),(10,none),(11,none),(12,none)]
 |_=>none,fun _=>none⟩
noncomputable def k129_j0:List Item:=[.code (sndC (sndC (sndC b129)))]
noncomputable def k129_l0:List Item:=[.code (inC (inC (sndC (fstC (sndC (sndC b129)))))), .inLoop (inC (inC (sndC (fstC (sndC (sndC b129)))))), .inBlock 0, .code (sndC (sndC (sndC b129)))]
noncomputable def k129_j1:List Item:=[.code (sndC (sndC (inC (inC (sndC (fstC (sndC (sndC b129)))))))), .inLoop (inC (inC (sndC (fstC (sndC (sndC b129)))))), .inBlock 0, .code (sndC (sndC (sndC b129)))]
noncomputable def k129_j2:List Item:=[.inBlock 1, .code (sndC (sndC (inC (inC (sndC (fstC (sndC (sndC b129)))))))), .inLoop (inC (inC (sndC (fstC (sndC (sndC b129)))))), .inBlock 0, .code (sndC (sndC (sndC b129)))]
noncomputable def k129_l2:List Item:=[.code (inC (inC (sndC (inC (fstC (sndC (inC (inC (sndC (fstC (sndC (sndC b129)))))))))))), .inLoop (inC (inC (sndC (inC (fstC (sndC (inC (inC (sndC (fstC (sndC (sndC b129)))))))))))), .inBlock 2, .inBlock 1, .code (sndC (sndC (inC (inC (sndC (fstC (sndC (sndC b129)))))))), .inLoop (inC (inC (sndC (fstC (sndC (sndC b129)))))), .inBlock 0, .code (sndC (sndC (sndC b129)))]
noncomputable def k129_j4:List Item:=[.code (sndC (sndC (sndC (sndC (sndC (sndC b129))))))]
noncomputable def k129_l4:List Item:=[.code (inC (inC (sndC (fstC (sndC (sndC (sndC (sndC (sndC b129))))))))), .inLoop (inC (inC (sndC (fstC (sndC (sndC (sndC (sndC (sndC b129))))))))), .inBlock 4, .code (sndC (sndC (sndC (sndC (sndC (sndC b129))))))]
noncomputable def k129_j5:List Item:=[.code (sndC (sndC (inC (inC (sndC (fstC (sndC (sndC (sndC (sndC (sndC b129))))))))))), .inLoop (inC (inC (sndC (fstC (sndC (sndC (sndC (sndC (sndC b129))))))))), .inBlock 4, .code (sndC (sndC (sndC (sndC (sndC (sndC b129))))))]
noncomputable def k129_j6:List Item:=[.inBlock 5, .code (sndC (sndC (inC (inC (sndC (fstC (sndC (sndC (sndC (sndC (sndC b129))))))))))), .inLoop (inC (inC (sndC (fstC (sndC (sndC (sndC (sndC (sndC b129))))))))), .inBlock 4, .code (sndC (sndC (sndC (sndC (sndC (sndC b129))))))]
noncomputable def k129_l6:List Item:=[.code (inC (inC (sndC (inC (fstC (sndC (inC (inC (sndC (fstC (sndC (sndC (sndC (sndC (sndC b129))))))))))))))), .inLoop (inC (inC (sndC (inC (fstC (sndC (inC (inC (sndC (fstC (sndC (sndC (sndC (sndC (sndC b129))))))))))))))), .inBlock 6, .inBlock 5, .code (sndC (sndC (inC (inC (sndC (fstC (sndC (sndC (sndC (sndC (sndC b129))))))))))), .inLoop (inC (inC (sndC (fstC (sndC (sndC (sndC (sndC (sndC b129))))))))), .inBlock 4, .code (sndC (sndC (sndC (sndC (sndC (sndC b129))))))]
noncomputable def k129_j7:List Item:=[.code (sndC (sndC (inC (inC (sndC (inC (fstC (sndC (inC (inC (sndC (fstC (sndC (sndC (sndC (sndC (sndC b129))))))))))))))))), .inLoop (inC (inC (sndC (inC (fstC (sndC (inC (inC (sndC (fstC (sndC (sndC (sndC (sndC (sndC b129))))))))))))))), .inBlock 6, .inBlock 5, .code (sndC (sndC (inC (inC (sndC (fstC (sndC (sndC (sndC (sndC (sndC b129))))))))))), .inLoop (inC (inC (sndC (fstC (sndC (sndC (sndC (sndC (sndC b129))))))))), .inBlock 4, .code (sndC (sndC (sndC (sndC (sndC (sndC b129))))))]
noncomputable def k129_j8:List Item:=[.inBlock 7, .code (sndC (sndC (inC (inC (sndC (inC (fstC (sndC (inC (inC (sndC (fstC (sndC (sndC (sndC (sndC (sndC b129))))))))))))))))), .inLoop (inC (inC (sndC (inC (fstC (sndC (inC (inC (sndC (fstC (sndC (sndC (sndC (sndC (sndC b129))))))))))))))), .inBlock 6, .inBlock 5, .code (sndC (sndC (inC (inC (sndC (fstC (sndC (sndC (sndC (sndC (sndC b129))))))))))), .inLoop (inC (inC (sndC (fstC (sndC (sndC (sndC (sndC (sndC b129))))))))), .inBlock 4, .code (sndC (sndC (sndC (sndC (sndC (sndC b129))))))]
noncomputable def k129_l8:List Item:=[.code (inC (inC (sndC (sndC (inC (fstC (sndC (inC (inC (sndC (inC (fstC (sndC (inC (inC (sndC (fstC (sndC (sndC (sndC (sndC (sndC b129)))))))))))))))))))))), .inLoop (inC (inC (sndC (sndC (inC (fstC (sndC (inC (inC (sndC (inC (fstC (sndC (inC (inC (sndC (fstC (sndC (sndC (sndC (sndC (sndC b129)))))))))))))))))))))), .inBlock 8, .inBlock 7, .code (sndC (sndC (inC (inC (sndC (inC (fstC (sndC (inC (inC (sndC (fstC (sndC (sndC (sndC (sndC (sndC b129))))))))))))))))), .inLoop (inC (inC (sndC (inC (fstC (sndC (inC (inC (sndC (fstC (sndC (sndC (sndC (sndC (sndC b129))))))))))))))), .inBlock 6, .inBlock 5, .code (sndC (sndC (inC (inC (sndC (fstC (sndC (sndC (sndC (sndC (sndC b129))))))))))), .inLoop (inC (inC (sndC (fstC (sndC (sndC (sndC (sndC (sndC b129))))))))), .inBlock 4, .code (sndC (sndC (sndC (sndC (sndC (sndC b129))))))]
noncomputable def k129_j9:List Item:=[.code (sndC (sndC (inC (inC (sndC (sndC (inC (fstC (sndC (inC (inC (sndC (inC (fstC (sndC (inC (inC (sndC (fstC (sndC (sndC (sndC (sndC (sndC b129)))))))))))))))))))))))), .inLoop (inC (inC (sndC (sndC (inC (fstC (sndC (inC (inC (sndC (inC (fstC (sndC (inC (inC (sndC (fstC (sndC (sndC (sndC (sndC (sndC b129)))))))))))))))))))))), .inBlock 8, .inBlock 7, .code (sndC (sndC (inC (inC (sndC (inC (fstC (sndC (inC (inC (sndC (fstC (sndC (sndC (sndC (sndC (sndC b129))))))))))))))))), .inLoop (inC (inC (sndC (inC (fstC (sndC (inC (inC (sndC (fstC (sndC (sndC (sndC (sndC (sndC b129))))))))))))))), .inBlock 6, .inBlock 5, .code (sndC (sndC (inC (inC (sndC (fstC (sndC (sndC (sndC (sndC (sndC b129))))))))))), .inLoop (inC (inC (sndC (fstC (sndC (sndC (sndC (sndC (sndC b129))))))))), .inBlock 4, .code (sndC (sndC (sndC (sndC (sndC (sndC b129))))))]
def a129 (f:Func):List (AV Ty):=[.agg [.v (.string f.name), .v (.bool f.out), .sl false (3:Nat) f.params, .v (.int .i64 f.result), .sl false (44:Nat) f.blocks]]
noncomputable def R129 (f:Func):St Ty→EvR:=resT tb C129 Try.f129.results.toList .keep (a129 f)
def s129_l0 (f:Func) (v3:Int) (v4:Int) (h0:List Func):St Ty:=St.mk [(1, .ptr (0) [] (0) (0)),(3, .v (.int .i64 v3)),(4, .v (.int .i64 v4))] [some (Root.mk (33) false h0)]
def s129_l2 (f:Func) (v3:Int) (v4:Int) (v5:Int) (h0:List Func):St Ty:=St.mk [(1, .ptr (0) [] (0) (0)),(3, .v (.int .i64 v3)),(4, .v (.int .i64 v4)),(5, .v (.int .i64 v5))] [some (Root.mk (33) false h0)]
def s129_j0 (f:Func) (v3:Int) (h0:List Func):St Ty:=St.mk [(1, .ptr (0) [] (0) (0)),(3, .v (.int .i64 v3))] [some (Root.mk (33) false h0)]
def s129_j2 (f:Func) (v3:Int) (v4:Int) (h0:List Func):St Ty:=St.mk [(1, .ptr (0) [] (0) (0)),(3, .v (.int .i64 v3)),(4, .v (.int .i64 v4))] [some (Root.mk (33) false h0)]
def s129_l4 (f:Func) (v3:Int) (v7:List S162) (v8:List (List Bool)) (v9:Int) (h0:List Func):St Ty:=St.mk [(1, .ptr (0) [] (0) (0)),(3, .v (.int .i64 v3)),(7, .sl false (162) v7),(8, .sl false (71) v8),(9, .v (.int .i64 v9))] [some (Root.mk (33) false h0)]
def s129_j1 (f:Func) (v3:Int) (v4:Int) (h0:List Func):St Ty:=St.mk [(1, .ptr (0) [] (0) (0)),(3, .v (.int .i64 v3)),(4, .v (.int .i64 v4))] [some (Root.mk (33) false h0)]
def s129_l6 (f:Func) (v3:Int) (v7:List S162) (v8:List (List Bool)) (v9:Int) (v10:Int) (h0:List Func):St Ty:=St.mk [(1, .ptr (0) [] (0) (0)),(3, .v (.int .i64 v3)),(7, .sl false (162) v7),(8, .sl false (71) v8),(9, .v (.int .i64 v9)),(10, .v (.int .i64 v10))] [some (Root.mk (33) false h0)]
def s129_j4 (f:Func):St Ty:=St.mk [] []
def s129_l8 (f:Func) (v3:Int) (v7:List S162) (v8:List (List Bool)) (v9:Int) (v10:Int) (v12:Int) (h0:List Func) (h1:List Ins):St Ty:=St.mk [(1, .ptr (0) [] (0) (0)),(3, .v (.int .i64 v3)),(7, .sl false (162) v7),(8, .sl false (71) v8),(9, .v (.int .i64 v9)),(10, .v (.int .i64 v10)),(11, .ptr (1) [] (0) (0)),(12, .v (.int .i64 v12))] [some (Root.mk (33) false h0),some (Root.mk (46) false h1)]
def s129_j6 (f:Func) (v3:Int) (v7:List S162) (v8:List (List Bool)) (v9:Int) (h0:List Func):St Ty:=St.mk [(1, .ptr (0) [] (0) (0)),(3, .v (.int .i64 v3)),(7, .sl false (162) v7),(8, .sl false (71) v8),(9, .v (.int .i64 v9))] [some (Root.mk (33) false h0)]
def s129_j9 (f:Func) (v3:Int) (v7:List S162) (v8:List (List Bool)) (v9:Int) (v10:Int) (v12:Int) (h0:List Func) (h1:List Ins):St Ty:=St.mk [(1, .ptr (0) [] (0) (0)),(3, .v (.int .i64 v3)),(7, .sl false (162) v7),(8, .sl false (71) v8),(9, .v (.int .i64 v9)),(10, .v (.int .i64 v10)),(11, .ptr (1) [] (0) (0)),(12, .v (.int .i64 v12))] [some (Root.mk (33) false h0),some (Root.mk (46) false h1)]
def s129_j8 (f:Func) (v3:Int) (v7:List S162) (v8:List (List Bool)) (v9:Int) (v10:Int) (h0:List Func):St Ty:=St.mk [(1, .ptr (0) [] (0) (0)),(3, .v (.int .i64 v3)),(7, .sl false (162) v7),(8, .sl false (71) v8),(9, .v (.int .i64 v9)),(10, .v (.int .i64 v10))] [some (Root.mk (33) false h0)]
def s129_j5 (f:Func) (v3:Int) (v7:List S162) (v8:List (List Bool)) (v9:Int) (h0:List Func):St Ty:=St.mk [(1, .ptr (0) [] (0) (0)),(3, .v (.int .i64 v3)),(7, .sl false (162) v7),(8, .sl false (71) v8),(9, .v (.int .i64 v9))] [some (Root.mk (33) false h0)]
def s129_j7 (f:Func) (v3:Int) (v7:List S162) (v8:List (List Bool)) (v9:Int) (v10:Int) (h0:List Func):St Ty:=St.mk [(1, .ptr (0) [] (0) (0)),(3, .v (.int .i64 v3)),(7, .sl false (162) v7),(8, .sl false (71) v8),(9, .v (.int .i64 v9)),(10, .v (.int .i64 v10))] [some (Root.mk (33) false h0)]
theorem e129 (J f):run tb C129 U129 J (R129 f) 4096 [.code b129] ⟨slotsA (a129 f) 0 0,heapA (a129 f)⟩=
 J k129_l0 (s129_l0 f ((↑f.params.length:Int)) 0 ([Func.mk f.name f.out f.params f.result f.blocks])):=by kernel_rfl
theorem e129_l0 (J f v3 v4 h0):run tb C129 U129 J (R129 f) 4096 k129_l0 (s129_l0 f v3 v4 h0)=
 if decide (v4<(↑(h0.getD (0) (Func.mk ByteArray.empty false [] 0 [])).blocks.length:Int))=true then
 J k129_l2 (s129_l2 f v3 v4 0 h0)
 else
 J k129_j0 (s129_j0 f v3 h0):=by kernel_rfl
theorem e129_l2 (J f v3 v4 v5 h0):run tb C129 U129 J (R129 f) 4096 k129_l2 (s129_l2 f v3 v4 v5 h0)=
 if 0≤v4 then
 if v4<(↑(h0.getD (0) (Func.mk ByteArray.empty false [] 0 [])).blocks.length:Int) then
 if decide (v5<(↑((h0.getD (0) (Func.mk ByteArray.empty false [] 0 [])).blocks.getD v4.toNat (Block.mk [])).ins.length:Int))=true then
 if 0≤v4 then
 if v4<(↑(h0.getD (0) (Func.mk ByteArray.empty false [] 0 [])).blocks.length:Int) then
 if 0≤v5 then
 if v5<(↑((h0.getD (0) (Func.mk ByteArray.empty false [] 0 [])).blocks.getD v4.toNat (Block.mk [])).ins.length:Int) then
 if ((rdI (h0.getD (0) (Func.mk ByteArray.empty false [] 0 [])).blocks v4.toNat v5.toNat).type_ != 0)=true then
 if ((rdI (h0.getD (0) (Func.mk ByteArray.empty false [] 0 [])).blocks v4.toNat v5.toNat).to_ != IntKind.i64.wrap (v3+1))=true then
 some (.v (.bool false),[.dead])
 else
 J k129_l2 (s129_l2 f (IntKind.i64.wrap (v3+1)) v4 (IntKind.i64.wrap (v5+1)) h0)
 else
 J k129_l2 (s129_l2 f v3 v4 (IntKind.i64.wrap (v5+1)) h0)
 else none
 else none
 else none
 else none
 else
 J k129_j2 (s129_j2 f v3 v4 h0)
 else none
 else none:=by kernel_rfl
theorem e129_j0 (J f v3 h0):run tb C129 U129 J (R129 f) 4096 k129_j0 (s129_j0 f v3 h0)=
 if wherePre (Func.mk (h0.getD (0) (Func.mk ByteArray.empty false [] 0 [])).name (h0.getD (0) (Func.mk ByteArray.empty false [] 0 [])).out (h0.getD (0) (Func.mk ByteArray.empty false [] 0 [])).params (h0.getD (0) (Func.mk ByteArray.empty false [] 0 [])).result (h0.getD (0) (Func.mk ByteArray.empty false [] 0 [])).blocks) then
 if okF (Func.mk (h0.getD (0) (Func.mk ByteArray.empty false [] 0 [])).name (h0.getD (0) (Func.mk ByteArray.empty false [] 0 [])).out (h0.getD (0) (Func.mk ByteArray.empty false [] 0 [])).params (h0.getD (0) (Func.mk ByteArray.empty false [] 0 [])).result (h0.getD (0) (Func.mk ByteArray.empty false [] 0 [])).blocks) then
 J k129_l4 (s129_l4 f v3 (whereL (Func.mk (h0.getD (0) (Func.mk ByteArray.empty false [] 0 [])).name (h0.getD (0) (Func.mk ByteArray.empty false [] 0 [])).out (h0.getD (0) (Func.mk ByteArray.empty false [] 0 [])).params (h0.getD (0) (Func.mk ByteArray.empty false [] 0 [])).result (h0.getD (0) (Func.mk ByteArray.empty false [] 0 [])).blocks)) (domsL (Func.mk (h0.getD (0) (Func.mk ByteArray.empty false [] 0 [])).name (h0.getD (0) (Func.mk ByteArray.empty false [] 0 [])).out (h0.getD (0) (Func.mk ByteArray.empty false [] 0 [])).params (h0.getD (0) (Func.mk ByteArray.empty false [] 0 [])).result (h0.getD (0) (Func.mk ByteArray.empty false [] 0 [])).blocks)) 0 h0)
 else none
 else none:=by kernel_rfl
theorem e129_j2 (J f v3 v4 h0):run tb C129 U129 J (R129 f) 4096 k129_j2 (s129_j2 f v3 v4 h0)=
 J k129_j1 (s129_j1 f v3 v4 h0):=by kernel_rfl
theorem e129_l4 (J f v3 v7 v8 v9 h0):run tb C129 U129 J (R129 f) 4096 k129_l4 (s129_l4 f v3 v7 v8 v9 h0)=
 if decide (v9<(↑(h0.getD (0) (Func.mk ByteArray.empty false [] 0 [])).blocks.length:Int))=true then
 J k129_l6 (s129_l6 f v3 v7 v8 v9 0 h0)
 else
 J k129_j4 (s129_j4 f):=by kernel_rfl
theorem e129_j1 (J f v3 v4 h0):run tb C129 U129 J (R129 f) 4096 k129_j1 (s129_j1 f v3 v4 h0)=
 J k129_l0 (s129_l0 f v3 (IntKind.i64.wrap (v4+1)) h0):=by kernel_rfl
theorem e129_l6 (J f v3 v7 v8 v9 v10 h0):run tb C129 U129 J (R129 f) 4096 k129_l6 (s129_l6 f v3 v7 v8 v9 v10 h0)=
 if 0≤v9 then
 if v9<(↑(h0.getD (0) (Func.mk ByteArray.empty false [] 0 [])).blocks.length:Int) then
 if decide (v10<(↑((h0.getD (0) (Func.mk ByteArray.empty false [] 0 [])).blocks.getD v9.toNat (Block.mk [])).ins.length:Int))=true then
 if 0≤v9 then
 if v9<(↑(h0.getD (0) (Func.mk ByteArray.empty false [] 0 [])).blocks.length:Int) then
 if 0≤v10 then
 if v10<(↑((h0.getD (0) (Func.mk ByteArray.empty false [] 0 [])).blocks.getD v9.toNat (Block.mk [])).ins.length:Int) then
 J k129_l8 (s129_l8 f v3 v7 v8 v9 v10 0 h0 ([Ins.mk (rdI (h0.getD (0) (Func.mk ByteArray.empty false [] 0 [])).blocks v9.toNat v10.toNat).op (rdI (h0.getD (0) (Func.mk ByteArray.empty false [] 0 [])).blocks v9.toNat v10.toNat).type_ (rdI (h0.getD (0) (Func.mk ByteArray.empty false [] 0 [])).blocks v9.toNat v10.toNat).to_ (rdI (h0.getD (0) (Func.mk ByteArray.empty false [] 0 [])).blocks v9.toNat v10.toNat).sym_ (rdI (h0.getD (0) (Func.mk ByteArray.empty false [] 0 [])).blocks v9.toNat v10.toNat).num (rdI (h0.getD (0) (Func.mk ByteArray.empty false [] 0 [])).blocks v9.toNat v10.toNat).args (rdI (h0.getD (0) (Func.mk ByteArray.empty false [] 0 [])).blocks v9.toNat v10.toNat).into]))
 else none
 else none
 else none
 else none
 else
 J k129_j6 (s129_j6 f v3 v7 v8 v9 h0)
 else none
 else none:=by kernel_rfl
theorem e129_j4 (J f):run tb C129 U129 J (R129 f) 4096 k129_j4 (s129_j4 f)=
 some (.v (.bool true),[.dead]):=by kernel_rfl
theorem e129_l8 (J f v3 v7 v8 v9 v10 v12 h0 h1):run tb C129 U129 J (R129 f) 4096 k129_l8 (s129_l8 f v3 v7 v8 v9 v10 v12 h0 h1)=
 if decide (v12<(↑(h1.getD (0) (Ins.mk 0 0 0 0 0 [] [])).args.length:Int))=true then
 if 0≤v12 then
 if v12<(↑(h1.getD (0) (Ins.mk 0 0 0 0 0 [] [])).args.length:Int) then
 if decide ((h1.getD (0) (Ins.mk 0 0 0 0 0 [] [])).args.getD v12.toNat 0<1)=false then
 if decide ((h1.getD (0) (Ins.mk 0 0 0 0 0 [] [])).args.getD v12.toNat 0>v3)=true then
 some (.v (.bool false),[.dead])
 else
 if 0≤(h1.getD (0) (Ins.mk 0 0 0 0 0 [] [])).args.getD v12.toNat 0 then
 if (h1.getD (0) (Ins.mk 0 0 0 0 0 [] [])).args.getD v12.toNat 0<(↑v7.length:Int) then
 if decide ((v7.getD (Int.toNat ((h1.getD (0) (Ins.mk 0 0 0 0 0 [] [])).args.getD v12.toNat 0)) (S162.mk 0 0)).a0<0)=true then
 J k129_j9 (s129_j9 f v3 v7 v8 v9 v10 v12 h0 h1)
 else
 if ((h1.getD (0) (Ins.mk 0 0 0 0 0 [] [])).op == 26)=true then
 if 0≤(v7.getD (Int.toNat ((h1.getD (0) (Ins.mk 0 0 0 0 0 [] [])).args.getD v12.toNat 0)) (S162.mk 0 0)).a0 then
 if (v7.getD (Int.toNat ((h1.getD (0) (Ins.mk 0 0 0 0 0 [] [])).args.getD v12.toNat 0)) (S162.mk 0 0)).a0<(↑v8.length:Int) then
 if 0≤v12 then
 if v12<(↑(h1.getD (0) (Ins.mk 0 0 0 0 0 [] [])).into.length:Int) then
 if 0≤(h1.getD (0) (Ins.mk 0 0 0 0 0 [] [])).into.getD v12.toNat 0 then
 if (h1.getD (0) (Ins.mk 0 0 0 0 0 [] [])).into.getD v12.toNat 0<(↑(List.length (v8.getD (v7.getD (Int.toNat ((h1.getD (0) (Ins.mk 0 0 0 0 0 [] [])).args.getD v12.toNat 0)) (S162.mk 0 0)).a0.toNat [])):Int) then
 if (!List.getD (v8.getD (v7.getD (Int.toNat ((h1.getD (0) (Ins.mk 0 0 0 0 0 [] [])).args.getD v12.toNat 0)) (S162.mk 0 0)).a0.toNat []) (Int.toNat ((h1.getD (0) (Ins.mk 0 0 0 0 0 [] [])).into.getD v12.toNat 0)) false)=true then
 some (.v (.bool false),[.dead])
 else
 J k129_j9 (s129_j9 f v3 v7 v8 v9 v10 v12 h0 h1)
 else none
 else none
 else none
 else none
 else none
 else none
 else
 if ((v7.getD (Int.toNat ((h1.getD (0) (Ins.mk 0 0 0 0 0 [] [])).args.getD v12.toNat 0)) (S162.mk 0 0)).a0 == v9)=true then
 if decide ((v7.getD (Int.toNat ((h1.getD (0) (Ins.mk 0 0 0 0 0 [] [])).args.getD v12.toNat 0)) (S162.mk 0 0)).a1≥v10)=false then
 if ((v7.getD (Int.toNat ((h1.getD (0) (Ins.mk 0 0 0 0 0 [] [])).args.getD v12.toNat 0)) (S162.mk 0 0)).a0 != v9)=true then
 if 0≤(v7.getD (Int.toNat ((h1.getD (0) (Ins.mk 0 0 0 0 0 [] [])).args.getD v12.toNat 0)) (S162.mk 0 0)).a0 then
 if (v7.getD (Int.toNat ((h1.getD (0) (Ins.mk 0 0 0 0 0 [] [])).args.getD v12.toNat 0)) (S162.mk 0 0)).a0<(↑v8.length:Int) then
 if 0≤v9 then
 if v9<(↑(List.length (v8.getD (v7.getD (Int.toNat ((h1.getD (0) (Ins.mk 0 0 0 0 0 [] [])).args.getD v12.toNat 0)) (S162.mk 0 0)).a0.toNat [])):Int) then
 if (!List.getD (v8.getD (v7.getD (Int.toNat ((h1.getD (0) (Ins.mk 0 0 0 0 0 [] [])).args.getD v12.toNat 0)) (S162.mk 0 0)).a0.toNat []) v9.toNat false)=true then
 some (.v (.bool false),[.dead])
 else
 J k129_j9 (s129_j9 f v3 v7 v8 v9 v10 v12 h0 h1)
 else none
 else none
 else none
 else none
 else
 J k129_j9 (s129_j9 f v3 v7 v8 v9 v10 v12 h0 h1)
 else
 some (.v (.bool false),[.dead])
 else
 if ((v7.getD (Int.toNat ((h1.getD (0) (Ins.mk 0 0 0 0 0 [] [])).args.getD v12.toNat 0)) (S162.mk 0 0)).a0 != v9)=true then
 if 0≤(v7.getD (Int.toNat ((h1.getD (0) (Ins.mk 0 0 0 0 0 [] [])).args.getD v12.toNat 0)) (S162.mk 0 0)).a0 then
 if (v7.getD (Int.toNat ((h1.getD (0) (Ins.mk 0 0 0 0 0 [] [])).args.getD v12.toNat 0)) (S162.mk 0 0)).a0<(↑v8.length:Int) then
 if 0≤v9 then
 if v9<(↑(List.length (v8.getD (v7.getD (Int.toNat ((h1.getD (0) (Ins.mk 0 0 0 0 0 [] [])).args.getD v12.toNat 0)) (S162.mk 0 0)).a0.toNat [])):Int) then
 if (!List.getD (v8.getD (v7.getD (Int.toNat ((h1.getD (0) (Ins.mk 0 0 0 0 0 [] [])).args.getD v12.toNat 0)) (S162.mk 0 0)).a0.toNat []) v9.toNat false)=true then
 some (.v (.bool false),[.dead])
 else
 J k129_j9 (s129_j9 f v3 v7 v8 v9 v10 v12 h0 h1)
 else none
 else none
 else none
 else none
 else
 J k129_j9 (s129_j9 f v3 v7 v8 v9 v10 v12 h0 h1)
 else none
 else none
 else
 some (.v (.bool false),[.dead])
 else none
 else none
 else
 J k129_j8 (s129_j8 f v3 v7 v8 v9 v10 h0):=by kernel_rfl
theorem e129_j6 (J f v3 v7 v8 v9 h0):run tb C129 U129 J (R129 f) 4096 k129_j6 (s129_j6 f v3 v7 v8 v9 h0)=
 J k129_j5 (s129_j5 f v3 v7 v8 v9 h0):=by kernel_rfl
theorem e129_j9 (J f v3 v7 v8 v9 v10 v12 h0 h1):run tb C129 U129 J (R129 f) 4096 k129_j9 (s129_j9 f v3 v7 v8 v9 v10 v12 h0 h1)=
 J k129_l8 (s129_l8 f v3 v7 v8 v9 v10 (IntKind.i64.wrap (v12+1)) h0 h1):=by kernel_rfl
theorem e129_j8 (J f v3 v7 v8 v9 v10 h0):run tb C129 U129 J (R129 f) 4096 k129_j8 (s129_j8 f v3 v7 v8 v9 v10 h0)=
 J k129_j7 (s129_j7 f v3 v7 v8 v9 v10 h0):=by kernel_rfl
theorem e129_j5 (J f v3 v7 v8 v9 h0):run tb C129 U129 J (R129 f) 4096 k129_j5 (s129_j5 f v3 v7 v8 v9 h0)=
 J k129_l4 (s129_l4 f v3 v7 v8 (IntKind.i64.wrap (v9+1)) h0):=by kernel_rfl
theorem e129_j7 (J f v3 v7 v8 v9 v10 h0):run tb C129 U129 J (R129 f) 4096 k129_j7 (s129_j7 f v3 v7 v8 v9 v10 h0)=
 J k129_l6 (s129_l6 f v3 v7 v8 v9 (IntKind.i64.wrap (v10+1)) h0):=by kernel_rfl

theorem in129:Entered 129:=⟨Try.f129,b129,by kernel_rfl,by kernel_rfl,by kernel_rfl⟩
theorem fn129 (f:Ev.Func) {res:AV Ty} {outs:List (AV Ty)} (h:Ends C129 U129 (R129 f) [.code b129] ⟨slotsA (a129 f) 0 0,heapA (a129 f)⟩ (some (res,outs))):CallOk tb Try.prog 129 (a129 f) res outs:=by
 obtain ⟨n0,hn⟩:=h
 exact fn_ok (C:=C129) (U:=U129) (n:=0+n0) (q:= .keep) tbOk good (fun f mu S h=>by
  unfold C129 at h
  simp only at h
  split at h
  ·cases h;exact ⟨in153,S153_ok⟩
  ·cases h;exact ⟨in154,S154_ok⟩
  ·cases h) mixed (fn:=Try.f129) (body:=b129) (by kernel_rfl) (by kernel_rfl) rfl rfl (by show 1≤154;omega) (hn 0)
section
variable {f:Ev.Func}
theorem Uses.i (hf:okF f) {b k:Nat} (hb:b<f.blocks.length) (hk:k<(f.blocks.getD b (Block.mk [])).ins.length):Way C129 U129 (R129 f) (rD false) k129_l2 (s129_l2 f (loc f b k) b k [f]) k129_l2 (s129_l2 f (loc f b (k+1)) b (k+1:Nat) [f]) (((f.blocks.getD b (Block.mk [])).ins.getD k (Ins.mk 0 0 0 0 0 [] [])).type_≠0→((f.blocks.getD b (Block.mk [])).ins.getD k (Ins.mk 0 0 0 0 0 [] [])).to_=loc f b (k+1)):=by
 have h1:=hf.b hb
 have h2:=types_len hf
 have hs:=loc_step hk
 have hle:=loc_le (k:=k+1) hb
 refine Way.of (fun J=>e129_l2 J f (loc f b k) b k [f]) ?_
 have w:IntKind.i64.wrap ((k:Int)+1)=((k+1:Nat):Int):=wrap_nat (by omega) (by omega)
 cases ht:(((f.blocks.getD b (Block.mk [])).ins.getD k (Ins.mk 0 0 0 0 0 [] [])).type_ != 0) with
 |false=>
  rw [ht] at hs
  simp only [Bool.false_eq_true,if_false,Nat.add_zero] at hs
  have ht2:((f.blocks.getD b (Block.mk [])).ins.getD k (Ins.mk 0 0 0 0 0 [] [])).type_=0:=by simpa using ht
  rw [hs]
  simp only [rdI,List.getD_cons_zero,Int.toNat_natCast,w]
  repeat' first|refine tree_qt (fun _=> ?_) (fun _=> ?_)|refine tree_qf (fun _=> ?_) (fun _=> ?_)|refine tree_nt (fun _=> ?_) (fun _=> ?_)|refine tree_nf (fun _=> ?_) (fun _=> ?_)|refine tree_et (fun _=> ?_) (fun _=> ?_)|refine tree_ef (fun _=> ?_) (fun _=> ?_)|refine tree_dt (fun _=> ?_) (fun _=> ?_)|refine tree_df (fun _=> ?_) (fun _=> ?_)|refine tree_bt (fun _=> ?_) (fun _=> ?_)|refine tree_bf (fun _=> ?_) (fun _=> ?_)|refine tree_ite (fun _=> ?_) (fun _=> ?_)
  all_goals first|exact WayT.yes (fun J=>rfl) (fun e=>absurd ht2 e)|(exfalso;omega)
 |true=>
  rw [ht] at hs
  simp only [if_true] at hs
  have ht2:((f.blocks.getD b (Block.mk [])).ins.getD k (Ins.mk 0 0 0 0 0 [] [])).type_≠0:=by simpa using ht
  have w2:IntKind.i64.wrap ((loc f b k:Int)+1)=((loc f b k+1:Nat):Int):=wrap_nat (by omega) (by omega)
  rw [hs]
  simp only [w2,rdI,List.getD_cons_zero,Int.toNat_natCast,w]
  repeat' first|refine tree_qt (fun _=> ?_) (fun _=> ?_)|refine tree_qf (fun _=> ?_) (fun _=> ?_)|refine tree_nt (fun _=> ?_) (fun _=> ?_)|refine tree_nf (fun _=> ?_) (fun _=> ?_)|refine tree_et (fun _=> ?_) (fun _=> ?_)|refine tree_ef (fun _=> ?_) (fun _=> ?_)|refine tree_dt (fun _=> ?_) (fun _=> ?_)|refine tree_df (fun _=> ?_) (fun _=> ?_)|refine tree_bt (fun _=> ?_) (fun _=> ?_)|refine tree_bf (fun _=> ?_) (fun _=> ?_)|refine tree_ite (fun _=> ?_) (fun _=> ?_)
  all_goals first|exact WayT.no (fun J=>rfl)|exact WayT.yes (fun J=>rfl) (fun _=>by assumption)|(exfalso;omega)
theorem Uses.b (hf:okF f) {b:Nat} (hb:b<f.blocks.length):Way C129 U129 (R129 f) (rD false) k129_l0 (s129_l0 f (loc f b 0) b [f]) k129_l0 (s129_l0 f (loc f (b+1) 0) (b+1:Nat) [f]) (∀k,k<(f.blocks.getD b (Block.mk [])).ins.length→((f.blocks.getD b (Block.mk [])).ins.getD k (Ins.mk 0 0 0 0 0 [] [])).type_≠0→((f.blocks.getD b (Block.mk [])).ins.getD k (Ins.mk 0 0 0 0 0 [] [])).to_=loc f b (k+1)):=by
 have h0:=hf.2.1
 have ww:IntKind.i64.wrap ((b:Int)+1)=((b+1:Nat):Int):=wrap_nat (by omega) (by omega)
 refine Goes.way (k':=k129_l2) (s':=s129_l2 f (loc f b 0) b (0:Nat) [f]) (.step fun J=> ?_) ?_
 ·rw [e129_l0]
  simp only [List.getD_cons_zero]
  simp (disch:=first|omega|assumption|(rw [dT];omega)|(rw [dF];omega)) only [↓iP,↓iN,iT,iF,wrap_up,tN,Nat.zero_add]
  rfl
 refine (Way.upto (fun k=>s129_l2 f (loc f b k) b k [f]) _ _ (fun k hk _=>Uses.i hf hb hk) _ (Nat.le_refl _)).then fun _=> ?_
 rw [loc_next hb]
 refine Goes.trans (k':=k129_j2) (s':=s129_j2 f (loc f (b+1) 0) b [f]) (.step fun J=> ?_) (.trans (.step fun J=>e129_j2 ..) (.step fun J=> ?_))
 ·rw [e129_l2]
  simp only [List.getD_cons_zero,Int.toNat_natCast]
  simp (disch:=first|omega|assumption|(rw [dT];omega)|(rw [dF];omega)) only [↓iP,↓iN,iT,iF,wrap_up,tN,Nat.zero_add]
 ·rw [e129_j1,ww]
theorem Uses.a (h:usesPre f) {b k j:Nat} (hb:b<f.blocks.length) (hk:k<(f.blocks.getD b (Block.mk [])).ins.length) (hj:j<((f.blocks.getD b (Block.mk [])).ins.getD k (Ins.mk 0 0 0 0 0 [] [])).args.length) {n:Nat} (hn:n+1=(typesOf f).length):Way C129 U129 (R129 f) (rD false) k129_l8 (s129_l8 f n (whereL f) (domsL f) b k j [f] [(f.blocks.getD b (Block.mk [])).ins.getD k (Ins.mk 0 0 0 0 0 [] [])]) k129_l8 (s129_l8 f n (whereL f) (domsL f) b k (j+1:Nat) [f] [(f.blocks.getD b (Block.mk [])).ins.getD k (Ins.mk 0 0 0 0 0 [] [])]) (1≤((f.blocks.getD b (Block.mk [])).ins.getD k (Ins.mk 0 0 0 0 0 [] [])).args.getD j 0∧((f.blocks.getD b (Block.mk [])).ins.getD k (Ins.mk 0 0 0 0 0 [] [])).args.getD j 0<(typesOf f).length):=by
 obtain ⟨hw,hq,hfl⟩:=h
 have hf:=hw.1
 have hN:=hw.2
 have h0:=hf.2.1
 obtain ⟨⟨wl,wd⟩,_⟩:=whereL_ok f hw
 obtain ⟨⟨dl,dd⟩,_⟩:=domsL_ok f hf
 have hx:=hq b hb k hk
 have hph:=hfl.2 b hb k hk
 have ha:=((hf.2.2 _ (getD_mem (d:=(Block.mk [])) hb)).2 _ (getD_mem (d:=(Ins.mk 0 0 0 0 0 [] [])) hk)).1
 generalize (f.blocks.getD b (Block.mk [])).ins.getD k (Ins.mk 0 0 0 0 0 [] [])=x at*
 have hinto:x.op=26→x.into.length=x.args.length∧0≤x.into.getD j 0∧x.into.getD j 0<f.blocks.length:=fun e=>by
  have h1:=(hx.1.2.2.2.2.2.2.1 e).2
  obtain ⟨h2,h3⟩:=hph e
  refine ⟨h1,?_⟩
  have hp:=prevL_in hf
  have hm:x.into.getD j 0∈(prevL f).getD b []:=by
   rw [←h3]
   exact getD_mem (by omega)
  exact (hp.2 _ (getD_mem (d:=[]) (show b<(prevL f).length by rw [hp.1];exact hb))).1 _ hm
 have ww:IntKind.i64.wrap ((j:Int)+1)=((j+1:Nat):Int):=wrap_nat (by omega) (by omega)
 have hd:((whereL f).getD (x.args.getD j 0).toNat ⟨0,0⟩).a0<f.blocks.length:=by
  by_cases hv:(x.args.getD j 0).toNat<(whereL f).length
  ·exact wd _ (getD_mem hv)
  ·have:(whereL f).getD (x.args.getD j 0).toNat ⟨0,0⟩=⟨0,0⟩:=by
    rw [List.getD_eq_getElem?_getD,List.getElem?_eq_none (by omega)]
    rfl
   rw [this]
   simp only
   omega
 have hrow:=dd ((whereL f).getD (x.args.getD j 0).toNat ⟨0,0⟩).a0.toNat
 refine (Way.of (k':=k129_j9) (s':=s129_j9 f n (whereL f) (domsL f) b k j [f] [x]) (fun J=>e129_l8 J f n (whereL f) (domsL f) b k j [f] [x]) ?_).then fun _=> .step fun J=>by rw [e129_j9,ww]
 simp only [List.getD_cons_zero,Int.toNat_natCast]
 clear hq hfl hx hph wd dd
 generalize hD:(whereL f).getD (x.args.getD j 0).toNat ⟨0,0⟩=d at*
 repeat' first|refine tree_qt (fun _=> ?_) (fun _=> ?_)|refine tree_qf (fun _=> ?_) (fun _=> ?_)|refine tree_nt (fun _=> ?_) (fun _=> ?_)|refine tree_nf (fun _=> ?_) (fun _=> ?_)|refine tree_et (fun _=> ?_) (fun _=> ?_)|refine tree_ef (fun _=> ?_) (fun _=> ?_)|refine tree_dt (fun _=> ?_) (fun _=> ?_)|refine tree_df (fun _=> ?_) (fun _=> ?_)|refine tree_bt (fun _=> ?_) (fun _=> ?_)|refine tree_bf (fun _=> ?_) (fun _=> ?_)|refine tree_ite (fun _=> ?_) (fun _=> ?_)
 all_goals first|exact WayT.no (fun J=>rfl)|exact WayT.yes (fun J=>rfl) (by omega)|(exfalso;omega)
theorem Uses.k (h:usesPre f) {b k:Nat} (hb:b<f.blocks.length) (hk:k<(f.blocks.getD b (Block.mk [])).ins.length) {n:Nat} (hn:n+1=(typesOf f).length):Way C129 U129 (R129 f) (rD false) k129_l6 (s129_l6 f n (whereL f) (domsL f) b k [f]) k129_l6 (s129_l6 f n (whereL f) (domsL f) b (k+1:Nat) [f]) (∀j,j<((f.blocks.getD b (Block.mk [])).ins.getD k (Ins.mk 0 0 0 0 0 [] [])).args.length→1≤((f.blocks.getD b (Block.mk [])).ins.getD k (Ins.mk 0 0 0 0 0 [] [])).args.getD j 0∧((f.blocks.getD b (Block.mk [])).ins.getD k (Ins.mk 0 0 0 0 0 [] [])).args.getD j 0<(typesOf f).length):=by
 have h1:=h.1.1.b hb
 have ww:IntKind.i64.wrap ((k:Int)+1)=((k+1:Nat):Int):=wrap_nat (by omega) (by omega)
 refine Goes.way (k':=k129_l8) (s':=s129_l8 f n (whereL f) (domsL f) b k (0:Nat) [f] [(f.blocks.getD b (Block.mk [])).ins.getD k (Ins.mk 0 0 0 0 0 [] [])]) (.step fun J=> ?_) ?_
 ·rw [e129_l6]
  simp only [List.getD_cons_zero,Int.toNat_natCast,rdI]
  simp (disch:=first|omega|assumption|(rw [dT];omega)|(rw [dF];omega)) only [↓iP,↓iN,iT,iF,wrap_up,tN,Nat.zero_add]
  rfl
 refine (Way.upto (fun j=>s129_l8 f n (whereL f) (domsL f) b k j [f] [(f.blocks.getD b (Block.mk [])).ins.getD k (Ins.mk 0 0 0 0 0 [] [])]) _ _ (fun j hj _=>Uses.a h hb hk hj hn) _ (Nat.le_refl _)).then fun _=> ?_
 refine Goes.trans (k':=k129_j8) (s':=s129_j8 f n (whereL f) (domsL f) b k [f]) (.step fun J=> ?_) (.trans (.step fun J=>e129_j8 ..) (.step fun J=> ?_))
 ·rw [e129_l8]
  simp only [List.getD_cons_zero,Int.toNat_natCast]
  simp (disch:=first|omega|assumption|(rw [dT];omega)|(rw [dF];omega)) only [↓iP,↓iN,iT,iF,wrap_up,tN,Nat.zero_add]
 ·rw [e129_j7,ww]
theorem Uses.c (h:usesPre f) {b:Nat} (hb:b<f.blocks.length) {n:Nat} (hn:n+1=(typesOf f).length):Way C129 U129 (R129 f) (rD false) k129_l4 (s129_l4 f n (whereL f) (domsL f) b [f]) k129_l4 (s129_l4 f n (whereL f) (domsL f) (b+1:Nat) [f]) (∀k,k<(f.blocks.getD b (Block.mk [])).ins.length→ ∀j,j<((f.blocks.getD b (Block.mk [])).ins.getD k (Ins.mk 0 0 0 0 0 [] [])).args.length→1≤((f.blocks.getD b (Block.mk [])).ins.getD k (Ins.mk 0 0 0 0 0 [] [])).args.getD j 0∧((f.blocks.getD b (Block.mk [])).ins.getD k (Ins.mk 0 0 0 0 0 [] [])).args.getD j 0<(typesOf f).length):=by
 have h0:=h.1.1.2.1
 have ww:IntKind.i64.wrap ((b:Int)+1)=((b+1:Nat):Int):=wrap_nat (by omega) (by omega)
 refine Goes.way (k':=k129_l6) (s':=s129_l6 f n (whereL f) (domsL f) b (0:Nat) [f]) (.step fun J=> ?_) ?_
 ·rw [e129_l4]
  simp only [List.getD_cons_zero]
  simp (disch:=first|omega|assumption|(rw [dT];omega)|(rw [dF];omega)) only [↓iP,↓iN,iT,iF,wrap_up,tN,Nat.zero_add]
  rfl
 refine (Way.upto (fun k=>s129_l6 f n (whereL f) (domsL f) b k [f]) _ _ (fun k hk _=>Uses.k h hb hk hn) _ (Nat.le_refl _)).then fun _=> ?_
 refine Goes.trans (k':=k129_j6) (s':=s129_j6 f n (whereL f) (domsL f) b [f]) (.step fun J=> ?_) (.trans (.step fun J=>e129_j6 ..) (.step fun J=> ?_))
 ·rw [e129_l6]
  simp only [List.getD_cons_zero,Int.toNat_natCast]
  simp (disch:=first|omega|assumption|(rw [dT];omega)|(rw [dF];omega)) only [↓iP,↓iN,iT,iF,wrap_up,tN,Nat.zero_add]
 ·rw [e129_j5,ww]
theorem uses3_ok (h:usesPre f): ∃b,Tells 129 (a129 f) [.dead] (ToQ f∧ArgQ f) b:=by
 have hf:=h.1.1
 have hw:=h.1
 have e0:(Func.mk f.name f.out f.params f.result f.blocks)=f:=rfl
 have:Says C129 U129 (R129 f) rD [.code b129] ⟨slotsA (a129 f) 0 0,heapA (a129 f)⟩ (ToQ f∧ArgQ f):=by
  refine Goes.says (k':=k129_l0) (s':=s129_l0 f (loc f 0 0) (0:Nat) [f]) (.step fun J=> ?_) ?_
  ·rw [e129,loc_zero]
   rfl
  refine Way.says (Way.upto (fun b=>s129_l0 f (loc f b 0) b [f]) _ _ (fun b hb _=>Uses.b hf hb) _ (Nat.le_refl _)) fun _=> ?_
  have hn:=loc_end hf
  generalize loc f f.blocks.length 0=n at*
  refine Goes.says (k':=k129_l4) (s':=s129_l4 f n (whereL f) (domsL f) (0:Nat) [f]) (.trans (k':=k129_j0) (s':=s129_j0 f n [f]) (.step fun J=> ?_) (.step fun J=> ?_)) ?_
  ·rw [e129_l0]
   simp only [List.getD_cons_zero]
   simp (disch:=first|omega|assumption|(rw [dT];omega)|(rw [dF];omega)) only [↓iP,↓iN,iT,iF,wrap_up,tN,Nat.zero_add]
  ·rw [e129_j0]
   simp only [List.getD_cons_zero]
   rw [e0]
   simp (disch:=first|omega|assumption|(rw [dT];omega)|(rw [dF];omega)) only [↓iP,↓iN,iT,iF,wrap_up,tN,Nat.zero_add,hf,hw]
   rfl
  refine (Way.says (Q':=True) (Way.upto (fun b=>s129_l4 f n (whereL f) (domsL f) b [f]) _ _ (fun b hb _=>Uses.c h hb hn) _ (Nat.le_refl _)) fun _=> ?_).mono fun q=>q.1
  refine Goes.says (k':=k129_j4) (s':=s129_j4 f) (.step fun J=> ?_) (.yes (.step fun J=>e129_j4 ..) trivial)
  rw [e129_l4]
  simp only [List.getD_cons_zero]
  simp (disch:=first|omega|assumption|(rw [dT];omega)|(rw [dF];omega)) only [↓iP,↓iN,iT,iF,wrap_up,tN,Nat.zero_add]
 obtain ⟨b,h1,h2⟩:=this
 exact ⟨b,fn129 f h1,h2⟩
end
noncomputable def usesB (f:Ev.Func):Bool:=told 129 (a129 f) [.dead] (ToQ f∧ArgQ f)
theorem usesB_ok (f:Ev.Func) (h:usesPre f):CallOk tb Try.prog 129 (a129 f) (.v (.bool (usesB f))) [.dead]:=(told_ok (uses3_ok h)).1
noncomputable def S129:List (AV Ty)→T (AV Ty×List (AV Ty))
 |[.agg x]=>match cod33.dec false x with
  |some f=> .ite (usesPre f) (Classical.propDecidable _) (.ret (.v (.bool (usesB f)),[.dead])) .fail
  |none=> .fail
 |_=> .fail
theorem S129_ok (l:List (AV Ty)) (r:AV Ty) (outs:List (AV Ty)) (h:(S129 l).val=some (r,outs)):CallOk tb Try.prog 129 l r outs:=by
 unfold S129 at h
 split at h
 ·rename_i x
  split at h
  ·rename_i f e1
   rcases ite_val h with ⟨e,h⟩|⟨_,h⟩
   ·cases h
    have h1:=cod33_ok.dec false x f e1
    subst h1
    exact usesB_ok f e
   ·cases h
  ·cases h
 ·cases h
end Go.Proofs.Ytggibjbcbicpjaa.Ev
namespace Go.Proofs.Ytggibjbcbicpjaa.Ev
open Go
set_option linter.unusedVariables false
set_option linter.unusedSimpArgs false
abbrev rD2 (b:Bool):EvR:=some (.v (.bool b),[.dead, .dead])
def typesPre (m:Ev.Module) (f:Ev.Func):Prop:=okF f∧FnQ f∧FnS m f∧ArgQ f
noncomputable instance fitPre.dec (m:Ev.Module) (i:Ev.Ins) (l:List Int):Decidable (fitPre m i l):=Classical.propDecidable _
noncomputable instance flowPre.dec (f:Ev.Func):Decidable (flowPre f):=Classical.propDecidable _
noncomputable instance usesPre.dec (f:Ev.Func):Decidable (usesPre f):=Classical.propDecidable _
noncomputable instance typesPre.dec (m:Ev.Module) (f:Ev.Func):Decidable (typesPre m f):=Classical.propDecidable _
def gotL (t l:List Int):List Int:=l.map fun a=>t.getD a.toNat 0
noncomputable def b130:Code:=bodyOf Try.f130
noncomputable def C130:Cfg Ty:=⟨fun
 |30=>some ([],S30)
 |155=>some ([],S155)
 |_=>none,fun _=>false,64,0⟩
def U130:Cuts:=⟨fun
 |0=>some []
 |1=>some [(2,none),(3,none),(5,none),(6,none)]
 |2=>some [(2,none),(3,none),(5,none),(6,none)]
 |3=>some [(2,none),(3,none),(5,none),(6,none),(7,none)]
 |4=>some [(2,none),(3,none),(5,none),(6,none),(7,none),(8,none),(9,some 3)]
 |_=>none,fun
 |0=>some [(2,none),(3,none),(5,none),(6,none)]
 |2=>some [(2,none),(3,none),(5,none),(6,none),(7,none)]
 |4=>some [(2,none),(3,none),(5,none),(6,none),(7,none),(8,none),(9,some 3),(10,none)]
 |_=>none,fun _=>none⟩
noncomputable def k130_j0:List Item:=[.code (sndC (sndC (sndC b130)))]
noncomputable def k130_l0:List Item:=[.code (inC (inC (sndC (fstC (sndC (sndC b130)))))), .inLoop (inC (inC (sndC (fstC (sndC (sndC b130)))))), .inBlock 0, .code (sndC (sndC (sndC b130)))]
noncomputable def k130_j1:List Item:=[.code (sndC (sndC (inC (inC (sndC (fstC (sndC (sndC b130)))))))), .inLoop (inC (inC (sndC (fstC (sndC (sndC b130)))))), .inBlock 0, .code (sndC (sndC (sndC b130)))]
noncomputable def k130_j2:List Item:=[.inBlock 1, .code (sndC (sndC (inC (inC (sndC (fstC (sndC (sndC b130)))))))), .inLoop (inC (inC (sndC (fstC (sndC (sndC b130)))))), .inBlock 0, .code (sndC (sndC (sndC b130)))]
noncomputable def k130_l2:List Item:=[.code (inC (inC (sndC (inC (fstC (sndC (inC (inC (sndC (fstC (sndC (sndC b130)))))))))))), .inLoop (inC (inC (sndC (inC (fstC (sndC (inC (inC (sndC (fstC (sndC (sndC b130)))))))))))), .inBlock 2, .inBlock 1, .code (sndC (sndC (inC (inC (sndC (fstC (sndC (sndC b130)))))))), .inLoop (inC (inC (sndC (fstC (sndC (sndC b130)))))), .inBlock 0, .code (sndC (sndC (sndC b130)))]
noncomputable def k130_j3:List Item:=[.code (sndC (sndC (inC (inC (sndC (inC (fstC (sndC (inC (inC (sndC (fstC (sndC (sndC b130)))))))))))))), .inLoop (inC (inC (sndC (inC (fstC (sndC (inC (inC (sndC (fstC (sndC (sndC b130)))))))))))), .inBlock 2, .inBlock 1, .code (sndC (sndC (inC (inC (sndC (fstC (sndC (sndC b130)))))))), .inLoop (inC (inC (sndC (fstC (sndC (sndC b130)))))), .inBlock 0, .code (sndC (sndC (sndC b130)))]
noncomputable def k130_j4:List Item:=[.code (sndC (sndC (sndC (inC (fstC (sndC (inC (inC (sndC (inC (fstC (sndC (inC (inC (sndC (fstC (sndC (sndC b130)))))))))))))))))), .inBlock 3, .code (sndC (sndC (inC (inC (sndC (inC (fstC (sndC (inC (inC (sndC (fstC (sndC (sndC b130)))))))))))))), .inLoop (inC (inC (sndC (inC (fstC (sndC (inC (inC (sndC (fstC (sndC (sndC b130)))))))))))), .inBlock 2, .inBlock 1, .code (sndC (sndC (inC (inC (sndC (fstC (sndC (sndC b130)))))))), .inLoop (inC (inC (sndC (fstC (sndC (sndC b130)))))), .inBlock 0, .code (sndC (sndC (sndC b130)))]
noncomputable def k130_l4:List Item:=[.code (inC (inC (sndC (fstC (sndC (sndC (inC (fstC (sndC (inC (inC (sndC (inC (fstC (sndC (inC (inC (sndC (fstC (sndC (sndC b130))))))))))))))))))))), .inLoop (inC (inC (sndC (fstC (sndC (sndC (inC (fstC (sndC (inC (inC (sndC (inC (fstC (sndC (inC (inC (sndC (fstC (sndC (sndC b130))))))))))))))))))))), .inBlock 4, .code (sndC (sndC (sndC (inC (fstC (sndC (inC (inC (sndC (inC (fstC (sndC (inC (inC (sndC (fstC (sndC (sndC b130)))))))))))))))))), .inBlock 3, .code (sndC (sndC (inC (inC (sndC (inC (fstC (sndC (inC (inC (sndC (fstC (sndC (sndC b130)))))))))))))), .inLoop (inC (inC (sndC (inC (fstC (sndC (inC (inC (sndC (fstC (sndC (sndC b130)))))))))))), .inBlock 2, .inBlock 1, .code (sndC (sndC (inC (inC (sndC (fstC (sndC (sndC b130)))))))), .inLoop (inC (inC (sndC (fstC (sndC (sndC b130)))))), .inBlock 0, .code (sndC (sndC (sndC b130)))]
def a130 (m:Module) (f:Func):List (AV Ty):=[.agg [.sl false (91:Nat) m.externs, .sl false (94:Nat) m.globals, .sl false (96:Nat) m.tables, .sl false (33:Nat) m.funcs], .agg [.v (.string f.name), .v (.bool f.out), .sl false (3:Nat) f.params, .v (.int .i64 f.result), .sl false (44:Nat) f.blocks]]
noncomputable def R130 (m:Module) (f:Func):St Ty→EvR:=resT tb C130 Try.f130.results.toList .keep (a130 m f)
def s130_l0 (m:Module) (f:Func) (v6:Int) (h0:List Module) (h1:List Func) (h2:List Int):St Ty:=St.mk [(2, .ptr (0) [] (0) (0)),(3, .ptr (1) [] (0) (0)),(5, .ref (2) [] none false),(6, .v (.int .i64 v6))] [some (Root.mk (27) false h0),some (Root.mk (33) false h1),some (Root.mk (3) true h2)]
def s130_l2 (m:Module) (f:Func) (v6:Int) (v7:Int) (h0:List Module) (h1:List Func) (h2:List Int):St Ty:=St.mk [(2, .ptr (0) [] (0) (0)),(3, .ptr (1) [] (0) (0)),(5, .ref (2) [] none false),(6, .v (.int .i64 v6)),(7, .v (.int .i64 v7))] [some (Root.mk (27) false h0),some (Root.mk (33) false h1),some (Root.mk (3) true h2)]
def s130_j0 (m:Module) (f:Func):St Ty:=St.mk [] []
def s130_l4 (m:Module) (f:Func) (v6:Int) (v7:Int) (v10:Int) (h0:List Module) (h1:List Func) (h2:List Int) (h3:List Ins) (h4:List Int):St Ty:=St.mk [(2, .ptr (0) [] (0) (0)),(3, .ptr (1) [] (0) (0)),(5, .ref (2) [] none false),(6, .v (.int .i64 v6)),(7, .v (.int .i64 v7)),(8, .ptr (3) [] (0) (0)),(9, .ref (4) [] none false),(10, .v (.int .i64 v10))] [some (Root.mk (27) false h0),some (Root.mk (33) false h1),some (Root.mk (3) true h2),some (Root.mk (46) false h3),some (Root.mk (3) false h4)]
def s130_j2 (m:Module) (f:Func) (v6:Int) (h0:List Module) (h1:List Func) (h2:List Int):St Ty:=St.mk [(2, .ptr (0) [] (0) (0)),(3, .ptr (1) [] (0) (0)),(5, .ref (2) [] none false),(6, .v (.int .i64 v6))] [some (Root.mk (27) false h0),some (Root.mk (33) false h1),some (Root.mk (3) true h2)]
def s130_j4 (m:Module) (f:Func) (v6:Int) (v7:Int) (h0:List Module) (h1:List Func) (h2:List Int) (h3:List Ins) (h4:List Int):St Ty:=St.mk [(2, .ptr (0) [] (0) (0)),(3, .ptr (1) [] (0) (0)),(5, .ref (2) [] none false),(6, .v (.int .i64 v6)),(7, .v (.int .i64 v7)),(8, .ptr (3) [] (0) (0)),(9, .ref (4) [] none false)] [some (Root.mk (27) false h0),some (Root.mk (33) false h1),some (Root.mk (3) true h2),some (Root.mk (46) false h3),some (Root.mk (3) false h4)]
def s130_j1 (m:Module) (f:Func) (v6:Int) (h0:List Module) (h1:List Func) (h2:List Int):St Ty:=St.mk [(2, .ptr (0) [] (0) (0)),(3, .ptr (1) [] (0) (0)),(5, .ref (2) [] none false),(6, .v (.int .i64 v6))] [some (Root.mk (27) false h0),some (Root.mk (33) false h1),some (Root.mk (3) true h2)]
def s130_j3 (m:Module) (f:Func) (v6:Int) (v7:Int) (h0:List Module) (h1:List Func) (h2:List Int):St Ty:=St.mk [(2, .ptr (0) [] (0) (0)),(3, .ptr (1) [] (0) (0)),(5, .ref (2) [] none false),(6, .v (.int .i64 v6)),(7, .v (.int .i64 v7))] [some (Root.mk (27) false h0),some (Root.mk (33) false h1),some (Root.mk (3) true h2)]
theorem e130 (J m f):run tb C130 U130 J (R130 m f) 4096 [.code b130] ⟨slotsA (a130 m f) 0 0,heapA (a130 m f)⟩=
 if okF (Func.mk f.name f.out f.params f.result f.blocks) then
 J k130_l0 (s130_l0 m f 0 ([Module.mk m.externs m.globals m.tables m.funcs]) ([Func.mk f.name f.out f.params f.result f.blocks]) (typesOf (Func.mk f.name f.out f.params f.result f.blocks)))
 else none:=by kernel_rfl
theorem e130_l0 (J m f v6 h0 h1 h2):run tb C130 U130 J (R130 m f) 4096 k130_l0 (s130_l0 m f v6 h0 h1 h2)=
 if decide (v6<(↑(h1.getD (0) (Func.mk ByteArray.empty false [] 0 [])).blocks.length:Int))=true then
 J k130_l2 (s130_l2 m f v6 0 h0 h1 h2)
 else
 J k130_j0 (s130_j0 m f):=by kernel_rfl
theorem e130_l2 (J m f v6 v7 h0 h1 h2):run tb C130 U130 J (R130 m f) 4096 k130_l2 (s130_l2 m f v6 v7 h0 h1 h2)=
 if 0≤v6 then
 if v6<(↑(h1.getD (0) (Func.mk ByteArray.empty false [] 0 [])).blocks.length:Int) then
 if decide (v7<(↑((h1.getD (0) (Func.mk ByteArray.empty false [] 0 [])).blocks.getD v6.toNat (Block.mk [])).ins.length:Int))=true then
 if 0≤v6 then
 if v6<(↑(h1.getD (0) (Func.mk ByteArray.empty false [] 0 [])).blocks.length:Int) then
 if 0≤v7 then
 if v7<(↑((h1.getD (0) (Func.mk ByteArray.empty false [] 0 [])).blocks.getD v6.toNat (Block.mk [])).ins.length:Int) then
 J k130_l4 (s130_l4 m f v6 v7 0 h0 h1 h2 ([Ins.mk (rdI (h1.getD (0) (Func.mk ByteArray.empty false [] 0 [])).blocks v6.toNat v7.toNat).op (rdI (h1.getD (0) (Func.mk ByteArray.empty false [] 0 [])).blocks v6.toNat v7.toNat).type_ (rdI (h1.getD (0) (Func.mk ByteArray.empty false [] 0 [])).blocks v6.toNat v7.toNat).to_ (rdI (h1.getD (0) (Func.mk ByteArray.empty false [] 0 [])).blocks v6.toNat v7.toNat).sym_ (rdI (h1.getD (0) (Func.mk ByteArray.empty false [] 0 [])).blocks v6.toNat v7.toNat).num (rdI (h1.getD (0) (Func.mk ByteArray.empty false [] 0 [])).blocks v6.toNat v7.toNat).args (rdI (h1.getD (0) (Func.mk ByteArray.empty false [] 0 [])).blocks v6.toNat v7.toNat).into]) ([]))
 else none
 else none
 else none
 else none
 else
 J k130_j2 (s130_j2 m f v6 h0 h1 h2)
 else none
 else none:=by kernel_rfl
theorem e130_j0 (J m f):run tb C130 U130 J (R130 m f) 4096 k130_j0 (s130_j0 m f)=
 some (.v (.bool true),[.dead, .dead]):=by kernel_rfl
theorem e130_l4 (J m f v6 v7 v10 h0 h1 h2 h3 h4):run tb C130 U130 J (R130 m f) 4096 k130_l4 (s130_l4 m f v6 v7 v10 h0 h1 h2 h3 h4)=
 if decide (v10<(↑(h3.getD (0) (Ins.mk 0 0 0 0 0 [] [])).args.length:Int))=true then
 if 0≤v10 then
 if v10<(↑(h3.getD (0) (Ins.mk 0 0 0 0 0 [] [])).args.length:Int) then
 if 0≤(h3.getD (0) (Ins.mk 0 0 0 0 0 [] [])).args.getD v10.toNat 0 then
 if (h3.getD (0) (Ins.mk 0 0 0 0 0 [] [])).args.getD v10.toNat 0<(↑h2.length:Int) then
 if h4.length+[h2.getD (0+Int.toNat ((h3.getD (0) (Ins.mk 0 0 0 0 0 [] [])).args.getD v10.toNat 0)) 0].length+1≤549755813888∧(h4.length+[h2.getD (0+Int.toNat ((h3.getD (0) (Ins.mk 0 0 0 0 0 [] [])).args.getD v10.toNat 0)) 0].length+1)*8≤549755813888 then
 J k130_l4 (s130_l4 m f v6 v7 (IntKind.i64.wrap (v10+1)) h0 h1 h2 h3 (h4++[h2.getD (0+Int.toNat ((h3.getD (0) (Ins.mk 0 0 0 0 0 [] [])).args.getD v10.toNat 0)) 0]))
 else none
 else none
 else none
 else none
 else none
 else
 J k130_j4 (s130_j4 m f v6 v7 h0 h1 h2 h3 h4):=by kernel_rfl
theorem e130_j2 (J m f v6 h0 h1 h2):run tb C130 U130 J (R130 m f) 4096 k130_j2 (s130_j2 m f v6 h0 h1 h2)=
 J k130_j1 (s130_j1 m f v6 h0 h1 h2):=by kernel_rfl
theorem e130_j4 (J m f v6 v7 h0 h1 h2 h3 h4):run tb C130 U130 J (R130 m f) 4096 k130_j4 (s130_j4 m f v6 v7 h0 h1 h2 h3 h4)=
 if fitPre (Module.mk (h0.getD (0) (Module.mk [] [] [] [])).externs (h0.getD (0) (Module.mk [] [] [] [])).globals (h0.getD (0) (Module.mk [] [] [] [])).tables (h0.getD (0) (Module.mk [] [] [] [])).funcs) (Ins.mk (h3.getD (0) (Ins.mk 0 0 0 0 0 [] [])).op (h3.getD (0) (Ins.mk 0 0 0 0 0 [] [])).type_ (h3.getD (0) (Ins.mk 0 0 0 0 0 [] [])).to_ (h3.getD (0) (Ins.mk 0 0 0 0 0 [] [])).sym_ (h3.getD (0) (Ins.mk 0 0 0 0 0 [] [])).num (h3.getD (0) (Ins.mk 0 0 0 0 0 [] [])).args (h3.getD (0) (Ins.mk 0 0 0 0 0 [] [])).into) h4 then
 if (!fitsB (Module.mk (h0.getD (0) (Module.mk [] [] [] [])).externs (h0.getD (0) (Module.mk [] [] [] [])).globals (h0.getD (0) (Module.mk [] [] [] [])).tables (h0.getD (0) (Module.mk [] [] [] [])).funcs) (Func.mk (h1.getD (0) (Func.mk ByteArray.empty false [] 0 [])).name (h1.getD (0) (Func.mk ByteArray.empty false [] 0 [])).out (h1.getD (0) (Func.mk ByteArray.empty false [] 0 [])).params (h1.getD (0) (Func.mk ByteArray.empty false [] 0 [])).result (h1.getD (0) (Func.mk ByteArray.empty false [] 0 [])).blocks) (Ins.mk (h3.getD (0) (Ins.mk 0 0 0 0 0 [] [])).op (h3.getD (0) (Ins.mk 0 0 0 0 0 [] [])).type_ (h3.getD (0) (Ins.mk 0 0 0 0 0 [] [])).to_ (h3.getD (0) (Ins.mk 0 0 0 0 0 [] [])).sym_ (h3.getD (0) (Ins.mk 0 0 0 0 0 [] [])).num (h3.getD (0) (Ins.mk 0 0 0 0 0 [] [])).args (h3.getD (0) (Ins.mk 0 0 0 0 0 [] [])).into) h4)=true then
 some (.v (.bool false),[.dead, .dead])
 else
 J k130_j3 (s130_j3 m f v6 v7 h0 h1 h2)
 else none:=by kernel_rfl
theorem e130_j1 (J m f v6 h0 h1 h2):run tb C130 U130 J (R130 m f) 4096 k130_j1 (s130_j1 m f v6 h0 h1 h2)=
 J k130_l0 (s130_l0 m f (IntKind.i64.wrap (v6+1)) h0 h1 h2):=by kernel_rfl
theorem e130_j3 (J m f v6 v7 h0 h1 h2):run tb C130 U130 J (R130 m f) 4096 k130_j3 (s130_j3 m f v6 v7 h0 h1 h2)=
 J k130_l2 (s130_l2 m f v6 (IntKind.i64.wrap (v7+1)) h0 h1 h2):=by kernel_rfl

theorem in130:Entered 130:=⟨Try.f130,b130,by kernel_rfl,by kernel_rfl,by kernel_rfl⟩
theorem fn130 (m:Ev.Module) (f:Ev.Func) {res:AV Ty} {outs:List (AV Ty)} (h:Ends C130 U130 (R130 m f) [.code b130] ⟨slotsA (a130 m f) 0 0,heapA (a130 m f)⟩ (some (res,outs))):CallOk tb Try.prog 130 (a130 m f) res outs:=by
 obtain ⟨n0,hn⟩:=h
 exact fn_ok (C:=C130) (U:=U130) (n:=0+n0) (q:= .keep) tbOk good (fun f mu S h=>by
  unfold C130 at h
  simp only at h
  split at h
  ·cases h;exact ⟨in30,S30_ok⟩
  ·cases h;exact ⟨in155,S155_ok⟩
  ·cases h) mixed (fn:=Try.f130) (body:=b130) (by kernel_rfl) (by kernel_rfl) rfl rfl (by show 2≤64;omega) (hn 0)
section
variable {m:Ev.Module} {f:Ev.Func}
theorem TypesC.a {b k j:Nat} {x:Ev.Ins} {t:List Int} (hl:x.args.length≤1000) (hj:j<x.args.length) (ha:1≤x.args.getD j 0∧x.args.getD j 0<t.length):Goes C130 U130 (R130 m f) k130_l4 (s130_l4 m f b k j [m] [f] t [x] (gotL t (x.args.take j))) k130_l4 (s130_l4 m f b k (j+1:Nat) [m] [f] t [x] (gotL t (x.args.take (j+1)))):= .step fun J=>by
 have ww:IntKind.i64.wrap ((j:Int)+1)=((j+1:Nat):Int):=wrap_nat (by omega) (by omega)
 have e1:gotL t (x.args.take (j+1))=gotL t (x.args.take j)++[t.getD (x.args.getD j 0).toNat 0]:=by
  unfold gotL
  rw [take_step (d:=0) hj,List.map_append]
  rfl
 have e2:(gotL t (x.args.take j)).length=j:=by
  unfold gotL
  rw [List.length_map,List.length_take]
  omega
 obtain ⟨h1,h2⟩:=ha
 rw [e130_l4,e1]
 simp only [List.getD_cons_zero,Int.toNat_natCast,ww,Nat.zero_add]
 generalize t.getD (x.args.getD j 0).toNat 0=y
 have c1:(gotL t (x.args.take j)).length+[y].length+1≤549755813888∧((gotL t (x.args.take j)).length+[y].length+1)*8≤549755813888:=by
  rw [List.length_singleton]
  omega
 simp (disch:=first|omega|assumption|(rw [dT];omega)|(rw [dF];omega)) only [↓iP,↓iN,iT,iF,wrap_up,tN,Nat.zero_add,c1,and_self]
theorem TypesC.k (h:typesPre m f) {b k:Nat} (hb:b<f.blocks.length) (hk:k<(f.blocks.getD b (Block.mk [])).ins.length):Way C130 U130 (R130 m f) (rD2 false) k130_l2 (s130_l2 m f b k [m] [f] (typesOf f)) k130_l2 (s130_l2 m f b (k+1:Nat) [m] [f] (typesOf f)) True:=by
 obtain ⟨hf,hq,hs,ha⟩:=h
 have h1:=hf.b hb
 have ww:IntKind.i64.wrap ((k:Int)+1)=((k+1:Nat):Int):=wrap_nat (by omega) (by omega)
 have hx:=((hf.2.2 _ (getD_mem (d:=(Block.mk [])) hb)).2 _ (getD_mem (d:=(Ins.mk 0 0 0 0 0 [] [])) hk)).1
 have hp:fitPre m ((f.blocks.getD b (Block.mk [])).ins.getD k (Ins.mk 0 0 0 0 0 [] [])) (gotL (typesOf f) ((f.blocks.getD b (Block.mk [])).ins.getD k (Ins.mk 0 0 0 0 0 [] [])).args):=⟨hq b hb k hk,hs b hb k hk,by unfold gotL;rw [List.length_map],by unfold gotL;rw [List.length_map];exact hx⟩
 have haj:=ha b hb k hk
 refine Goes.way (k':=k130_l4) (s':=s130_l4 m f b k (0:Nat) [m] [f] (typesOf f) [(f.blocks.getD b (Block.mk [])).ins.getD k (Ins.mk 0 0 0 0 0 [] [])] []) (.step fun J=> ?_) ?_
 ·rw [e130_l2]
  simp only [List.getD_cons_zero,Int.toNat_natCast,rdI]
  simp (disch:=first|omega|assumption|(rw [dT];omega)|(rw [dF];omega)) only [↓iP,↓iN,iT,iF,wrap_up,tN,Nat.zero_add]
  rfl
 generalize (f.blocks.getD b (Block.mk [])).ins.getD k (Ins.mk 0 0 0 0 0 [] [])=x at*
 refine Goes.way (Goes.upto (fun j=>s130_l4 m f b k j [m] [f] (typesOf f) [x] (gotL (typesOf f) (x.args.take j))) _ (fun j hj=>TypesC.a hx hj (haj j hj)) _ (Nat.le_refl _)) ?_
 rw [List.take_length]
 refine Goes.way (k':=k130_j4) (s':=s130_j4 m f b k [m] [f] (typesOf f) [x] (gotL (typesOf f) x.args)) (.step fun J=> ?_) ?_
 ·rw [e130_l4]
  simp only [List.getD_cons_zero]
  simp (disch:=first|omega|assumption|(rw [dT];omega)|(rw [dF];omega)) only [↓iP,↓iN,iT,iF,wrap_up,tN,Nat.zero_add]
 refine (Way.of (k':=k130_j3) (s':=s130_j3 m f b k [m] [f] (typesOf f)) (fun J=>e130_j4 J m f b k [m] [f] (typesOf f) [x] (gotL (typesOf f) x.args)) ?_).then fun _=> .step fun J=>by rw [e130_j3,ww]
 simp only [List.getD_cons_zero]
 repeat' first|refine tree_qt (fun _=> ?_) (fun _=> ?_)|refine tree_qf (fun _=> ?_) (fun _=> ?_)|refine tree_nt (fun _=> ?_) (fun _=> ?_)|refine tree_nf (fun _=> ?_) (fun _=> ?_)|refine tree_et (fun _=> ?_) (fun _=> ?_)|refine tree_ef (fun _=> ?_) (fun _=> ?_)|refine tree_dt (fun _=> ?_) (fun _=> ?_)|refine tree_df (fun _=> ?_) (fun _=> ?_)|refine tree_bt (fun _=> ?_) (fun _=> ?_)|refine tree_bf (fun _=> ?_) (fun _=> ?_)|refine tree_ite (fun _=> ?_) (fun _=> ?_)
 all_goals first|exact WayT.no (fun J=>rfl)|exact WayT.yes (fun J=>rfl) trivial|exact absurd hp ‹_›
theorem TypesC.b (h:typesPre m f) {b:Nat} (hb:b<f.blocks.length):Way C130 U130 (R130 m f) (rD2 false) k130_l0 (s130_l0 m f b [m] [f] (typesOf f)) k130_l0 (s130_l0 m f (b+1:Nat) [m] [f] (typesOf f)) True:=by
 have h0:=h.1.2.1
 have ww:IntKind.i64.wrap ((b:Int)+1)=((b+1:Nat):Int):=wrap_nat (by omega) (by omega)
 refine Goes.way (k':=k130_l2) (s':=s130_l2 m f b (0:Nat) [m] [f] (typesOf f)) (.step fun J=> ?_) ?_
 ·rw [e130_l0]
  simp only [List.getD_cons_zero]
  simp (disch:=first|omega|assumption|(rw [dT];omega)|(rw [dF];omega)) only [↓iP,↓iN,iT,iF,wrap_up,tN,Nat.zero_add]
  rfl
 refine ((Way.upto (fun k=>s130_l2 m f b k [m] [f] (typesOf f)) _ (fun _=>True) (fun k hk _=>TypesC.k h hb hk) _ (Nat.le_refl _)).mono fun _=>trivial).then fun _=> ?_
 refine Goes.trans (k':=k130_j2) (s':=s130_j2 m f b [m] [f] (typesOf f)) (.step fun J=> ?_) (.trans (.step fun J=>e130_j2 ..) (.step fun J=> ?_))
 ·rw [e130_l2]
  simp only [List.getD_cons_zero,Int.toNat_natCast]
  simp (disch:=first|omega|assumption|(rw [dT];omega)|(rw [dF];omega)) only [↓iP,↓iN,iT,iF,wrap_up,tN,Nat.zero_add]
 ·rw [e130_j1,ww]
theorem typesC_ok (h:typesPre m f): ∃b,Tells 130 (a130 m f) [.dead, .dead] True b:=by
 have hf:=h.1
 have e0:(Func.mk f.name f.out f.params f.result f.blocks)=f:=rfl
 have:Says C130 U130 (R130 m f) rD2 [.code b130] ⟨slotsA (a130 m f) 0 0,heapA (a130 m f)⟩ True:=by
  refine Goes.says (k':=k130_l0) (s':=s130_l0 m f (0:Nat) [m] [f] (typesOf f)) (.step fun J=> ?_) ?_
  ·rw [e130,e0]
   simp (disch:=first|omega|assumption|(rw [dT];omega)|(rw [dF];omega)) only [↓iP,↓iN,iT,iF,wrap_up,tN,Nat.zero_add,hf]
   rfl
  refine (Way.says (Q':=True) ((Way.upto (fun b=>s130_l0 m f b [m] [f] (typesOf f)) _ (fun _=>True) (fun b hb _=>TypesC.b h hb) _ (Nat.le_refl _)).mono fun _=>trivial) fun _=> ?_).mono fun _=>trivial
  refine Goes.says (k':=k130_j0) (s':=s130_j0 m f) (.step fun J=> ?_) (.yes (.step fun J=>e130_j0 ..) trivial)
  rw [e130_l0]
  simp only [List.getD_cons_zero]
  simp (disch:=first|omega|assumption|(rw [dT];omega)|(rw [dF];omega)) only [↓iP,↓iN,iT,iF,wrap_up,tN,Nat.zero_add]
 obtain ⟨b,h1,h2⟩:=this
 exact ⟨b,fn130 m f h1,h2⟩
end
noncomputable def typesCB (m:Ev.Module) (f:Ev.Func):Bool:=told 130 (a130 m f) [.dead, .dead] True
noncomputable def S130:List (AV Ty)→T (AV Ty×List (AV Ty))
 |[.agg x, .agg y]=>match cod27.dec false x,cod33.dec false y with
  |some m,some f=> .ite (typesPre m f) (Classical.propDecidable _) (.ret (.v (.bool (typesCB m f)),[.dead, .dead])) .fail
  |_,_=> .fail
 |_=> .fail
theorem S130_ok (l:List (AV Ty)) (r:AV Ty) (outs:List (AV Ty)) (h:(S130 l).val=some (r,outs)):CallOk tb Try.prog 130 l r outs:=by
 unfold S130 at h
 split at h
 ·rename_i x y
  split at h
  ·rename_i m f e1 e2
   rcases ite_val h with ⟨e,h⟩|⟨_,h⟩
   ·cases h
    have h1:=cod27_ok.dec false x m e1
    have h2:=cod33_ok.dec false y f e2
    subst h1 h2
    exact (told_ok (typesC_ok e)).1
   ·cases h
  ·cases h
 ·cases h
noncomputable def limitsB (m:Ev.Module):Bool:=told 124 (a124 m) [.dead] (LimitsQ m)
theorem limitsB_ok (m:Ev.Module) (h:okM m):CallOk tb Try.prog 124 (a124 m) (.v (.bool (limitsB m))) [.dead]:=(told_ok (limits_ok m h)).1
noncomputable def formsB (m:Ev.Module):Bool:=told 125 (a125 m) [.dead] (FormsQ m)
theorem formsB_ok (m:Ev.Module) (h:okM m):CallOk tb Try.prog 125 (a125 m) (.v (.bool (formsB m))) [.dead]:=(told_ok (forms_ok m h)).1
noncomputable def namesB (m:Ev.Module):Bool:=told 126 (a126 m) [.dead] True
theorem namesB_ok (m:Ev.Module) (h:okM m):CallOk tb Try.prog 126 (a126 m) (.v (.bool (namesB m))) [.dead]:=(told_ok (names_ok m h)).1
noncomputable def symsB (m:Ev.Module):Bool:=told 127 (a127 m) [.dead] (SymsQ m)
theorem symsB_ok (m:Ev.Module) (h:okM m):CallOk tb Try.prog 127 (a127 m) (.v (.bool (symsB m))) [.dead]:=(told_ok (syms_ok m h)).1
noncomputable def S124:List (AV Ty)→T (AV Ty×List (AV Ty))
 |[.agg x]=>match cod27.dec false x with
  |some m=> .ite (okM m) (okM.dec m) (.ret (.v (.bool (limitsB m)),[.dead])) .fail
  |none=> .fail
 |_=> .fail
theorem S124_ok (l:List (AV Ty)) (r:AV Ty) (outs:List (AV Ty)) (h:(S124 l).val=some (r,outs)):CallOk tb Try.prog 124 l r outs:=by
 unfold S124 at h
 split at h
 ·rename_i x
  split at h
  ·rename_i m e1
   rcases ite_val h with ⟨e,h⟩|⟨_,h⟩
   ·cases h
    have h1:=cod27_ok.dec false x m e1
    subst h1
    exact limitsB_ok m e
   ·cases h
  ·cases h
 ·cases h
noncomputable def S125:List (AV Ty)→T (AV Ty×List (AV Ty))
 |[.agg x]=>match cod27.dec false x with
  |some m=> .ite (okM m) (okM.dec m) (.ret (.v (.bool (formsB m)),[.dead])) .fail
  |none=> .fail
 |_=> .fail
theorem S125_ok (l:List (AV Ty)) (r:AV Ty) (outs:List (AV Ty)) (h:(S125 l).val=some (r,outs)):CallOk tb Try.prog 125 l r outs:=by
 unfold S125 at h
 split at h
 ·rename_i x
  split at h
  ·rename_i m e1
   rcases ite_val h with ⟨e,h⟩|⟨_,h⟩
   ·cases h
    have h1:=cod27_ok.dec false x m e1
    subst h1
    exact formsB_ok m e
   ·cases h
  ·cases h
 ·cases h
noncomputable def S126:List (AV Ty)→T (AV Ty×List (AV Ty))
 |[.agg x]=>match cod27.dec false x with
  |some m=> .ite (okM m) (okM.dec m) (.ret (.v (.bool (namesB m)),[.dead])) .fail
  |none=> .fail
 |_=> .fail
theorem S126_ok (l:List (AV Ty)) (r:AV Ty) (outs:List (AV Ty)) (h:(S126 l).val=some (r,outs)):CallOk tb Try.prog 126 l r outs:=by
 unfold S126 at h
 split at h
 ·rename_i x
  split at h
  ·rename_i m e1
   rcases ite_val h with ⟨e,h⟩|⟨_,h⟩
   ·cases h
    have h1:=cod27_ok.dec false x m e1
    subst h1
    exact namesB_ok m e
   ·cases h
  ·cases h
 ·cases h
noncomputable def S127:List (AV Ty)→T (AV Ty×List (AV Ty))
 |[.agg x]=>match cod27.dec false x with
  |some m=> .ite (okM m) (okM.dec m) (.ret (.v (.bool (symsB m)),[.dead])) .fail
  |none=> .fail
 |_=> .fail
theorem S127_ok (l:List (AV Ty)) (r:AV Ty) (outs:List (AV Ty)) (h:(S127 l).val=some (r,outs)):CallOk tb Try.prog 127 l r outs:=by
 unfold S127 at h
 split at h
 ·rename_i x
  split at h
  ·rename_i m e1
   rcases ite_val h with ⟨e,h⟩|⟨_,h⟩
   ·cases h
    have h1:=cod27_ok.dec false x m e1
    subst h1
    exact symsB_ok m e
   ·cases h
  ·cases h
 ·cases h
end Go.Proofs.Ytggibjbcbicpjaa.Ev
namespace Go.Proofs.Ytggibjbcbicpjaa.Ev
open Go
set_option linter.unusedVariables false
set_option linter.unusedSimpArgs false
abbrev rC (e:Int):EvR:=some (.v (.int .i64 e),[.dead])
section
variable {C:Cfg Ty} {U:Cuts} {Rt:St Ty→EvR} {k k':List Item} {s s':St Ty} {Q Q':Prop} {F:Jt→EvR} {e:Int}
def AnsC (C:Cfg Ty) (U:Cuts) (Rt:St Ty→EvR) (k:List Item) (s:St Ty) (Q:Prop):Prop:= ∃e,Ends C U Rt k s (rC e)∧(e=0→Q)
def AnsF (C:Cfg Ty) (U:Cuts) (Rt:St Ty→EvR) (Q:Prop) (F:Jt→EvR):Prop:=(∃e,e≠0∧ ∀J,F J=rC e)∨ ∃k' s',(∀J,F J=J k' s')∧AnsC C U Rt k' s' Q
theorem AnsC.of (h: ∀J:Jt,run tb C U J Rt 4096 k s=F J) (g:AnsF C U Rt Q F):AnsC C U Rt k s Q:=by
 rcases g with ⟨e,g1,g2⟩|⟨k',s',g1,e,g2,g3⟩
 ·exact ⟨e, .step fun J=>(h J).trans (g2 J),fun h=>absurd h g1⟩
 ·exact ⟨e,(Goes.step fun J=>(h J).trans (g1 J)).ends g2,g3⟩
theorem Way.ansC (h:Way C U Rt (rC e) k s k' s' Q) (he:e≠0) (g:Q→AnsC C U Rt k' s' Q'):AnsC C U Rt k s Q':=by
 rcases h with h|⟨q,h⟩
 ·exact ⟨e,h,fun h=>absurd h he⟩
 ·obtain ⟨e,g1,g2⟩:=g q
  exact ⟨e,h.ends g1,g2⟩
theorem Goes.ansC (h:Goes C U Rt k s k' s') (g:AnsC C U Rt k' s' Q):AnsC C U Rt k s Q:=by
 obtain ⟨e,g1,g2⟩:=g
 exact ⟨e,h.ends g1,g2⟩
end
def CheckQ (m:Ev.Module):Prop:=LimitsQ m∧FormsQ m∧SymsQ m∧ ∀i,i<m.funcs.length→FlowQ (m.funcs.getD i (Func.mk ByteArray.empty false [] 0 []))∧ToQ (m.funcs.getD i (Func.mk ByteArray.empty false [] 0 []))∧ArgQ (m.funcs.getD i (Func.mk ByteArray.empty false [] 0 []))
noncomputable def b74:Code:=bodyOf Try.f74
noncomputable def C74:Cfg Ty:=⟨fun
 |124=>some ([],S124)
 |125=>some ([],S125)
 |126=>some ([],S126)
 |127=>some ([],S127)
 |128=>some ([],S128)
 |129=>some ([],S129)
 |130=>some ([],S130)
 |_=>none,fun _=>false,61,0⟩
def U74:Cuts:=⟨fun
 |0=>some [(1,none)]
 |2=>some [(1,none)]
 |4=>some []
 |_=>none,fun
 |0=>some [(1,none),(3,none)]
 |2=>some [(1,none),(4,none)]
 |4=>some [(1,none),(5,none)]
 |_=>none,fun _=>none⟩
noncomputable def k74_j0:List Item:=[.code (sndC (sndC (sndC (sndC (sndC (sndC b74))))))]
noncomputable def k74_l0:List Item:=[.code (inC (inC (sndC (fstC (sndC (sndC (sndC (sndC (sndC b74))))))))), .inLoop (inC (inC (sndC (fstC (sndC (sndC (sndC (sndC (sndC b74))))))))), .inBlock 0, .code (sndC (sndC (sndC (sndC (sndC (sndC b74))))))]
noncomputable def k74_j2:List Item:=[.code (sndC (sndC (sndC (sndC (sndC (sndC (sndC b74)))))))]
noncomputable def k74_l2:List Item:=[.code (inC (inC (sndC (fstC (sndC (sndC (sndC (sndC (sndC (sndC b74)))))))))), .inLoop (inC (inC (sndC (fstC (sndC (sndC (sndC (sndC (sndC (sndC b74)))))))))), .inBlock 2, .code (sndC (sndC (sndC (sndC (sndC (sndC (sndC b74)))))))]
noncomputable def k74_j4:List Item:=[.code (sndC (sndC (sndC (sndC (sndC (sndC (sndC (sndC b74))))))))]
noncomputable def k74_l4:List Item:=[.code (inC (inC (sndC (fstC (sndC (sndC (sndC (sndC (sndC (sndC (sndC b74))))))))))), .inLoop (inC (inC (sndC (fstC (sndC (sndC (sndC (sndC (sndC (sndC (sndC b74))))))))))), .inBlock 4, .code (sndC (sndC (sndC (sndC (sndC (sndC (sndC (sndC b74))))))))]
def a74 (m:Module):List (AV Ty):=[.agg [.sl false (91:Nat) m.externs, .sl false (94:Nat) m.globals, .sl false (96:Nat) m.tables, .sl false (33:Nat) m.funcs]]
noncomputable def R74 (m:Module):St Ty→EvR:=resT tb C74 Try.f74.results.toList .keep (a74 m)
def s74_l0 (m:Module) (v3:Int) (h0:List Module):St Ty:=St.mk [(1, .ptr (0) [] (0) (0)),(3, .v (.int .i64 v3))] [some (Root.mk (27) false h0)]
def s74_j0 (m:Module) (h0:List Module):St Ty:=St.mk [(1, .ptr (0) [] (0) (0))] [some (Root.mk (27) false h0)]
def s74_l2 (m:Module) (v4:Int) (h0:List Module):St Ty:=St.mk [(1, .ptr (0) [] (0) (0)),(4, .v (.int .i64 v4))] [some (Root.mk (27) false h0)]
def s74_j2 (m:Module) (h0:List Module):St Ty:=St.mk [(1, .ptr (0) [] (0) (0))] [some (Root.mk (27) false h0)]
def s74_l4 (m:Module) (v5:Int) (h0:List Module):St Ty:=St.mk [(1, .ptr (0) [] (0) (0)),(5, .v (.int .i64 v5))] [some (Root.mk (27) false h0)]
def s74_j4 (m:Module):St Ty:=St.mk [] []
theorem e74 (J m):run tb C74 U74 J (R74 m) 4096 [.code b74] ⟨slotsA (a74 m) 0 0,heapA (a74 m)⟩=
 if okM (Module.mk m.externs m.globals m.tables m.funcs) then
 if (!limitsB (Module.mk m.externs m.globals m.tables m.funcs))=true then
 some (.v (.int .i64 2),[.dead])
 else
 if okM (Module.mk m.externs m.globals m.tables m.funcs) then
 if (!formsB (Module.mk m.externs m.globals m.tables m.funcs))=true then
 some (.v (.int .i64 1),[.dead])
 else
 if okM (Module.mk m.externs m.globals m.tables m.funcs) then
 if (!namesB (Module.mk m.externs m.globals m.tables m.funcs))=true then
 some (.v (.int .i64 3),[.dead])
 else
 if okM (Module.mk m.externs m.globals m.tables m.funcs) then
 if (!symsB (Module.mk m.externs m.globals m.tables m.funcs))=true then
 some (.v (.int .i64 4),[.dead])
 else
 J k74_l0 (s74_l0 m 0 ([Module.mk m.externs m.globals m.tables m.funcs]))
 else none
 else none
 else none
 else none:=by kernel_rfl
theorem e74_l0 (J m v3 h0):run tb C74 U74 J (R74 m) 4096 k74_l0 (s74_l0 m v3 h0)=
 if decide (v3<(↑(h0.getD (0) (Module.mk [] [] [] [])).funcs.length:Int))=true then
 if 0≤v3 then
 if v3<(↑(h0.getD (0) (Module.mk [] [] [] [])).funcs.length:Int) then
 if flowPre (Func.mk ((h0.getD (0) (Module.mk [] [] [] [])).funcs.getD v3.toNat (Func.mk ByteArray.empty false [] 0 [])).name ((h0.getD (0) (Module.mk [] [] [] [])).funcs.getD v3.toNat (Func.mk ByteArray.empty false [] 0 [])).out ((h0.getD (0) (Module.mk [] [] [] [])).funcs.getD v3.toNat (Func.mk ByteArray.empty false [] 0 [])).params ((h0.getD (0) (Module.mk [] [] [] [])).funcs.getD v3.toNat (Func.mk ByteArray.empty false [] 0 [])).result ((h0.getD (0) (Module.mk [] [] [] [])).funcs.getD v3.toNat (Func.mk ByteArray.empty false [] 0 [])).blocks) then
 if (!flowsB (Func.mk ((h0.getD (0) (Module.mk [] [] [] [])).funcs.getD v3.toNat (Func.mk ByteArray.empty false [] 0 [])).name ((h0.getD (0) (Module.mk [] [] [] [])).funcs.getD v3.toNat (Func.mk ByteArray.empty false [] 0 [])).out ((h0.getD (0) (Module.mk [] [] [] [])).funcs.getD v3.toNat (Func.mk ByteArray.empty false [] 0 [])).params ((h0.getD (0) (Module.mk [] [] [] [])).funcs.getD v3.toNat (Func.mk ByteArray.empty false [] 0 [])).result ((h0.getD (0) (Module.mk [] [] [] [])).funcs.getD v3.toNat (Func.mk ByteArray.empty false [] 0 [])).blocks))=true then
 some (.v (.int .i64 5),[.dead])
 else
 J k74_l0 (s74_l0 m (IntKind.i64.wrap (v3+1)) h0)
 else none
 else none
 else none
 else
 J k74_j0 (s74_j0 m h0):=by kernel_rfl
theorem e74_j0 (J m h0):run tb C74 U74 J (R74 m) 4096 k74_j0 (s74_j0 m h0)=
 J k74_l2 (s74_l2 m 0 h0):=by kernel_rfl
theorem e74_l2 (J m v4 h0):run tb C74 U74 J (R74 m) 4096 k74_l2 (s74_l2 m v4 h0)=
 if decide (v4<(↑(h0.getD (0) (Module.mk [] [] [] [])).funcs.length:Int))=true then
 if 0≤v4 then
 if v4<(↑(h0.getD (0) (Module.mk [] [] [] [])).funcs.length:Int) then
 if usesPre (Func.mk ((h0.getD (0) (Module.mk [] [] [] [])).funcs.getD v4.toNat (Func.mk ByteArray.empty false [] 0 [])).name ((h0.getD (0) (Module.mk [] [] [] [])).funcs.getD v4.toNat (Func.mk ByteArray.empty false [] 0 [])).out ((h0.getD (0) (Module.mk [] [] [] [])).funcs.getD v4.toNat (Func.mk ByteArray.empty false [] 0 [])).params ((h0.getD (0) (Module.mk [] [] [] [])).funcs.getD v4.toNat (Func.mk ByteArray.empty false [] 0 [])).result ((h0.getD (0) (Module.mk [] [] [] [])).funcs.getD v4.toNat (Func.mk ByteArray.empty false [] 0 [])).blocks) then
 if (!usesB (Func.mk ((h0.getD (0) (Module.mk [] [] [] [])).funcs.getD v4.toNat (Func.mk ByteArray.empty false [] 0 [])).name ((h0.getD (0) (Module.mk [] [] [] [])).funcs.getD v4.toNat (Func.mk ByteArray.empty false [] 0 [])).out ((h0.getD (0) (Module.mk [] [] [] [])).funcs.getD v4.toNat (Func.mk ByteArray.empty false [] 0 [])).params ((h0.getD (0) (Module.mk [] [] [] [])).funcs.getD v4.toNat (Func.mk ByteArray.empty false [] 0 [])).result ((h0.getD (0) (Module.mk [] [] [] [])).funcs.getD v4.toNat (Func.mk ByteArray.empty false [] 0 [])).blocks))=true then
 some (.v (.int .i64 6),[.dead])
 else
 J k74_l2 (s74_l2 m (IntKind.i64.wrap (v4+1)) h0)
 else none
 else none
 else none
 else
 J k74_j2 (s74_j2 m h0):=by kernel_rfl
theorem e74_j2 (J m h0):run tb C74 U74 J (R74 m) 4096 k74_j2 (s74_j2 m h0)=
 J k74_l4 (s74_l4 m 0 h0):=by kernel_rfl
theorem e74_l4 (J m v5 h0):run tb C74 U74 J (R74 m) 4096 k74_l4 (s74_l4 m v5 h0)=
 if decide (v5<(↑(h0.getD (0) (Module.mk [] [] [] [])).funcs.length:Int))=true then
 if 0≤v5 then
 if v5<(↑(h0.getD (0) (Module.mk [] [] [] [])).funcs.length:Int) then
 if typesPre (Module.mk (h0.getD (0) (Module.mk [] [] [] [])).externs (h0.getD (0) (Module.mk [] [] [] [])).globals (h0.getD (0) (Module.mk [] [] [] [])).tables (h0.getD (0) (Module.mk [] [] [] [])).funcs) (Func.mk ((h0.getD (0) (Module.mk [] [] [] [])).funcs.getD v5.toNat (Func.mk ByteArray.empty false [] 0 [])).name ((h0.getD (0) (Module.mk [] [] [] [])).funcs.getD v5.toNat (Func.mk ByteArray.empty false [] 0 [])).out ((h0.getD (0) (Module.mk [] [] [] [])).funcs.getD v5.toNat (Func.mk ByteArray.empty false [] 0 [])).params ((h0.getD (0) (Module.mk [] [] [] [])).funcs.getD v5.toNat (Func.mk ByteArray.empty false [] 0 [])).result ((h0.getD (0) (Module.mk [] [] [] [])).funcs.getD v5.toNat (Func.mk ByteArray.empty false [] 0 [])).blocks) then
 if (!typesCB (Module.mk (h0.getD (0) (Module.mk [] [] [] [])).externs (h0.getD (0) (Module.mk [] [] [] [])).globals (h0.getD (0) (Module.mk [] [] [] [])).tables (h0.getD (0) (Module.mk [] [] [] [])).funcs) (Func.mk ((h0.getD (0) (Module.mk [] [] [] [])).funcs.getD v5.toNat (Func.mk ByteArray.empty false [] 0 [])).name ((h0.getD (0) (Module.mk [] [] [] [])).funcs.getD v5.toNat (Func.mk ByteArray.empty false [] 0 [])).out ((h0.getD (0) (Module.mk [] [] [] [])).funcs.getD v5.toNat (Func.mk ByteArray.empty false [] 0 [])).params ((h0.getD (0) (Module.mk [] [] [] [])).funcs.getD v5.toNat (Func.mk ByteArray.empty false [] 0 [])).result ((h0.getD (0) (Module.mk [] [] [] [])).funcs.getD v5.toNat (Func.mk ByteArray.empty false [] 0 [])).blocks))=true then
 some (.v (.int .i64 7),[.dead])
 else
 J k74_l4 (s74_l4 m (IntKind.i64.wrap (v5+1)) h0)
 else none
 else none
 else none
 else
 J k74_j4 (s74_j4 m):=by kernel_rfl
theorem e74_j4 (J m):run tb C74 U74 J (R74 m) 4096 k74_j4 (s74_j4 m)=
 some (.v (.int .i64 0),[.dead]):=by kernel_rfl

theorem in74:Entered 74:=⟨Try.f74,b74,by kernel_rfl,by kernel_rfl,by kernel_rfl⟩
theorem fn74 (m:Ev.Module) {res:AV Ty} {outs:List (AV Ty)} (h:Ends C74 U74 (R74 m) [.code b74] ⟨slotsA (a74 m) 0 0,heapA (a74 m)⟩ (some (res,outs))):CallOk tb Try.prog 74 (a74 m) res outs:=by
 obtain ⟨n0,hn⟩:=h
 exact fn_ok (C:=C74) (U:=U74) (n:=0+n0) (q:= .keep) tbOk good (fun f mu S h=>by
  unfold C74 at h
  simp only at h
  split at h
  ·cases h;exact ⟨in124,S124_ok⟩
  ·cases h;exact ⟨in125,S125_ok⟩
  ·cases h;exact ⟨in126,S126_ok⟩
  ·cases h;exact ⟨in127,S127_ok⟩
  ·cases h;exact ⟨in128,S128_ok⟩
  ·cases h;exact ⟨in129,S129_ok⟩
  ·cases h;exact ⟨in130,S130_ok⟩
  ·cases h) mixed (fn:=Try.f74) (body:=b74) (by kernel_rfl) (by kernel_rfl) rfl rfl (by show 1≤61;omega) (hn 0)
section
variable {m:Ev.Module}
theorem Check.f (h:okM m) (hq:FormsQ m) {i:Nat} (hi:i<m.funcs.length):Way C74 U74 (R74 m) (rC 5) k74_l0 (s74_l0 m i [m]) k74_l0 (s74_l0 m (i+1:Nat) [m]) (FlowQ (m.funcs.getD i (Func.mk ByteArray.empty false [] 0 []))):=by
 have hl:=h.1.2.2.2
 have hp:flowPre (m.funcs.getD i (Func.mk ByteArray.empty false [] 0 [])):=⟨h.f hi,hq i hi⟩
 refine Way.of (fun J=>e74_l0 J m i [m]) ?_
 have w:IntKind.i64.wrap ((i:Int)+1)=((i+1:Nat):Int):=wrap_nat (by omega) (by omega)
 simp only [List.getD_cons_zero,Int.toNat_natCast,w]
 repeat' first|refine tree_qt (fun _=> ?_) (fun _=> ?_)|refine tree_qf (fun _=> ?_) (fun _=> ?_)|refine tree_nt (fun _=> ?_) (fun _=> ?_)|refine tree_nf (fun _=> ?_) (fun _=> ?_)|refine tree_et (fun _=> ?_) (fun _=> ?_)|refine tree_ef (fun _=> ?_) (fun _=> ?_)|refine tree_dt (fun _=> ?_) (fun _=> ?_)|refine tree_df (fun _=> ?_) (fun _=> ?_)|refine tree_bt (fun _=> ?_) (fun _=> ?_)|refine tree_bf (fun _=> ?_) (fun _=> ?_)|refine tree_ite (fun _=> ?_) (fun _=> ?_)
 all_goals first|exact WayT.no (fun J=>rfl)|exact WayT.yes (fun J=>rfl) ((told_ok (flows_ok hp)).2 ‹_›)|(exfalso;omega)|exact absurd hp ‹_›
theorem Check.u (h:okM m) (hq:FormsQ m) (hl:LimitsQ m) (hf: ∀i,i<m.funcs.length→FlowQ (m.funcs.getD i (Func.mk ByteArray.empty false [] 0 []))) {i:Nat} (hi:i<m.funcs.length):Way C74 U74 (R74 m) (rC 6) k74_l2 (s74_l2 m i [m]) k74_l2 (s74_l2 m (i+1:Nat) [m]) (ToQ (m.funcs.getD i (Func.mk ByteArray.empty false [] 0 []))∧ArgQ (m.funcs.getD i (Func.mk ByteArray.empty false [] 0 []))):=by
 have h0:=h.1.2.2.2
 have hp:usesPre (m.funcs.getD i (Func.mk ByteArray.empty false [] 0 [])):=⟨⟨h.f hi,hl i hi⟩,hq i hi,hf i hi⟩
 refine Way.of (fun J=>e74_l2 J m i [m]) ?_
 have w:IntKind.i64.wrap ((i:Int)+1)=((i+1:Nat):Int):=wrap_nat (by omega) (by omega)
 simp only [List.getD_cons_zero,Int.toNat_natCast,w]
 repeat' first|refine tree_qt (fun _=> ?_) (fun _=> ?_)|refine tree_qf (fun _=> ?_) (fun _=> ?_)|refine tree_nt (fun _=> ?_) (fun _=> ?_)|refine tree_nf (fun _=> ?_) (fun _=> ?_)|refine tree_et (fun _=> ?_) (fun _=> ?_)|refine tree_ef (fun _=> ?_) (fun _=> ?_)|refine tree_dt (fun _=> ?_) (fun _=> ?_)|refine tree_df (fun _=> ?_) (fun _=> ?_)|refine tree_bt (fun _=> ?_) (fun _=> ?_)|refine tree_bf (fun _=> ?_) (fun _=> ?_)|refine tree_ite (fun _=> ?_) (fun _=> ?_)
 all_goals first|exact WayT.no (fun J=>rfl)|exact WayT.yes (fun J=>rfl) ((told_ok (uses3_ok hp)).2 ‹_›)|(exfalso;omega)|exact absurd hp ‹_›
theorem Check.t (h:okM m) (hq:FormsQ m) (hs:SymsQ m) (hf: ∀i,i<m.funcs.length→ToQ (m.funcs.getD i (Func.mk ByteArray.empty false [] 0 []))∧ArgQ (m.funcs.getD i (Func.mk ByteArray.empty false [] 0 []))) {i:Nat} (hi:i<m.funcs.length):Way C74 U74 (R74 m) (rC 7) k74_l4 (s74_l4 m i [m]) k74_l4 (s74_l4 m (i+1:Nat) [m]) True:=by
 have h0:=h.1.2.2.2
 have hp:typesPre m (m.funcs.getD i (Func.mk ByteArray.empty false [] 0 [])):=⟨h.f hi,hq i hi,hs i hi,(hf i hi).2⟩
 refine Way.of (fun J=>e74_l4 J m i [m]) ?_
 have w:IntKind.i64.wrap ((i:Int)+1)=((i+1:Nat):Int):=wrap_nat (by omega) (by omega)
 simp only [List.getD_cons_zero,Int.toNat_natCast,w]
 repeat' first|refine tree_qt (fun _=> ?_) (fun _=> ?_)|refine tree_qf (fun _=> ?_) (fun _=> ?_)|refine tree_nt (fun _=> ?_) (fun _=> ?_)|refine tree_nf (fun _=> ?_) (fun _=> ?_)|refine tree_et (fun _=> ?_) (fun _=> ?_)|refine tree_ef (fun _=> ?_) (fun _=> ?_)|refine tree_dt (fun _=> ?_) (fun _=> ?_)|refine tree_df (fun _=> ?_) (fun _=> ?_)|refine tree_bt (fun _=> ?_) (fun _=> ?_)|refine tree_bf (fun _=> ?_) (fun _=> ?_)|refine tree_ite (fun _=> ?_) (fun _=> ?_)
 all_goals first|exact WayT.no (fun J=>rfl)|exact WayT.yes (fun J=>rfl) (trivial)|(exfalso;omega)|exact absurd hp ‹_›
theorem check_rest (h:okM m) (hl:LimitsQ m) (hq:FormsQ m) (hs:SymsQ m):AnsC C74 U74 (R74 m) k74_l0 (s74_l0 m 0 [m]) (CheckQ m):=by
 refine Way.ansC (e:=5) (Way.upto (fun i=>s74_l0 m i [m]) _ _ (fun i hi _=>Check.f h hq hi) _ (Nat.le_refl _)) (by decide) fun hf=> ?_
 refine Goes.ansC (k':=k74_l2) (s':=s74_l2 m (0:Nat) [m]) (.trans (k':=k74_j0) (s':=s74_j0 m [m]) (.step fun J=> ?_) (.step fun J=>e74_j0 ..)) ?_
 ·rw [e74_l0]
  simp only [List.getD_cons_zero]
  simp (disch:=first|omega|assumption|(rw [dT];omega)|(rw [dF];omega)) only [↓iP,↓iN,iT,iF,wrap_up,tN,Nat.zero_add]
 refine Way.ansC (e:=6) (Way.upto (fun i=>s74_l2 m i [m]) _ _ (fun i hi _=>Check.u h hq hl hf hi) _ (Nat.le_refl _)) (by decide) fun hu=> ?_
 refine Goes.ansC (k':=k74_l4) (s':=s74_l4 m (0:Nat) [m]) (.trans (k':=k74_j2) (s':=s74_j2 m [m]) (.step fun J=> ?_) (.step fun J=>e74_j2 ..)) ?_
 ·rw [e74_l2]
  simp only [List.getD_cons_zero]
  simp (disch:=first|omega|assumption|(rw [dT];omega)|(rw [dF];omega)) only [↓iP,↓iN,iT,iF,wrap_up,tN,Nat.zero_add]
 refine Way.ansC (e:=7) (Way.upto (fun i=>s74_l4 m i [m]) _ (fun _=>True) (fun i hi _=>Check.t h hq hs hu hi) _ (Nat.le_refl _)) (by decide) fun _=> ?_
 refine ⟨0,Goes.ends (k':=k74_j4) (s':=s74_j4 m) (.step fun J=> ?_) (.step fun J=>e74_j4 ..),fun _=>⟨hl,hq,hs,fun i hi=>⟨hf i hi,hu i hi⟩⟩⟩
 rw [e74_l4]
 simp only [List.getD_cons_zero]
 simp (disch:=first|omega|assumption|(rw [dT];omega)|(rw [dF];omega)) only [↓iP,↓iN,iT,iF,wrap_up,tN,Nat.zero_add]
theorem check_ex (m:Ev.Module) (h:okM m): ∃e,CallOk tb Try.prog 74 (a74 m) (.v (.int .i64 e)) [.dead]∧(e=0→CheckQ m):=by
 have e0:(Module.mk m.externs m.globals m.tables m.funcs)=m:=rfl
 have:AnsC C74 U74 (R74 m) [.code b74] ⟨slotsA (a74 m) 0 0,heapA (a74 m)⟩ (CheckQ m):=by
  refine AnsC.of (fun J=>e74 J m) ?_
  simp only [e0]
  repeat' first|refine tree_qt (fun _=> ?_) (fun _=> ?_)|refine tree_qf (fun _=> ?_) (fun _=> ?_)|refine tree_nt (fun _=> ?_) (fun _=> ?_)|refine tree_nf (fun _=> ?_) (fun _=> ?_)|refine tree_et (fun _=> ?_) (fun _=> ?_)|refine tree_ef (fun _=> ?_) (fun _=> ?_)|refine tree_dt (fun _=> ?_) (fun _=> ?_)|refine tree_df (fun _=> ?_) (fun _=> ?_)|refine tree_bt (fun _=> ?_) (fun _=> ?_)|refine tree_bf (fun _=> ?_) (fun _=> ?_)|refine tree_ite (fun _=> ?_) (fun _=> ?_)
  all_goals first|exact .inl ⟨_,by decide,fun J=>rfl⟩|exact .inr ⟨_,_,fun J=>rfl,check_rest h ((told_ok (limits_ok m h)).2 ‹_›) ((told_ok (forms_ok m h)).2 ‹_›) ((told_ok (syms_ok m h)).2 ‹_›)⟩|exact absurd h ‹_›
 obtain ⟨e,h1,h2⟩:=this
 exact ⟨e,fn74 m h1,h2⟩
end
noncomputable def checkI (m:Ev.Module):Int:=if h:okM m then Classical.choose (check_ex m h) else 0
theorem checkI_ok (m:Ev.Module) (h:okM m):CallOk tb Try.prog 74 (a74 m) (.v (.int .i64 (checkI m))) [.dead]∧(checkI m=0→CheckQ m):=by
 unfold checkI
 rw [dif_pos h]
 exact Classical.choose_spec (check_ex m h)
theorem check_ok (m:Ev.Module) (h:okM m):CallOk tb Try.prog 74 (a74 m) (.v (.int .i64 (checkI m))) [.dead]:=(checkI_ok m h).1
noncomputable def S74:List (AV Ty)→T (AV Ty×List (AV Ty))
 |[.agg x]=>match cod27.dec false x with
  |some m=> .ite (okM m) (okM.dec m) (.ret (.v (.int .i64 (checkI m)),[.dead])) .fail
  |none=> .fail
 |_=> .fail
theorem S74_ok (l:List (AV Ty)) (r:AV Ty) (outs:List (AV Ty)) (h:(S74 l).val=some (r,outs)):CallOk tb Try.prog 74 l r outs:=by
 unfold S74 at h
 split at h
 ·rename_i x
  split at h
  ·rename_i m e1
   rcases ite_val h with ⟨e,h⟩|⟨_,h⟩
   ·cases h
    have h1:=cod27_ok.dec false x m e1
    subst h1
    exact check_ok m e
   ·cases h
  ·cases h
 ·cases h
end Go.Proofs.Ytggibjbcbicpjaa.Ev
namespace Go.Proofs.Ytggibjbcbicpjaa.Ev
open Go
set_option linter.unusedVariables false
set_option linter.unusedSimpArgs false
noncomputable def fitB (m:Ev.Module):Bool:=match smallB m with
 |true=>checkI m == 0
 |false=>false
noncomputable def b20:Code:=bodyOf Try.f20
noncomputable def C20:Cfg Ty:=⟨fun
 |33=>some ([],S33)
 |74=>some ([],S74)
 |_=>none,fun _=>false,10,0⟩
def U20:Cuts:=⟨fun _=>none,fun _=>none,fun _=>none⟩
def a20 (m:Module):List (AV Ty):=[.agg [.sl false (91:Nat) m.externs, .sl false (94:Nat) m.globals, .sl false (96:Nat) m.tables, .sl false (33:Nat) m.funcs]]
noncomputable def R20 (m:Module):St Ty→EvR:=resT tb C20 Try.f20.results.toList .keep (a20 m)
theorem e20 (J m):run tb C20 U20 J (R20 m) 4096 [.code b20] ⟨slotsA (a20 m) 0 0,heapA (a20 m)⟩=
 if wideM (Module.mk m.externs m.globals m.tables m.funcs) then
 if smallB (Module.mk m.externs m.globals m.tables m.funcs)=true then
 if okM (Module.mk m.externs m.globals m.tables m.funcs) then
 some (.v (.bool (checkI (Module.mk m.externs m.globals m.tables m.funcs) == 0)),[.dead])
 else none
 else
 some (.v (.bool false),[.dead])
 else none:=by kernel_rfl

theorem in20:Entered 20:=⟨Try.f20,b20,by kernel_rfl,by kernel_rfl,by kernel_rfl⟩
theorem fn20 (m:Ev.Module) {res:AV Ty} {outs:List (AV Ty)} (h:Ends C20 U20 (R20 m) [.code b20] ⟨slotsA (a20 m) 0 0,heapA (a20 m)⟩ (some (res,outs))):CallOk tb Try.prog 20 (a20 m) res outs:=by
 obtain ⟨n0,hn⟩:=h
 exact fn_ok (C:=C20) (U:=U20) (n:=0+n0) (q:= .keep) tbOk good (fun f mu S h=>by
  unfold C20 at h
  simp only at h
  split at h
  ·cases h;exact ⟨in33,S33_ok⟩
  ·cases h;exact ⟨in74,S74_ok⟩
  ·cases h) mixed (fn:=Try.f20) (body:=b20) (by kernel_rfl) (by kernel_rfl) rfl rfl (by show 1≤10;omega) (hn 0)
theorem fit_ok (m:Ev.Module) (h:wideM m):CallOk tb Try.prog 20 (a20 m) (.v (.bool (fitB m))) [.dead]:=by
 have e0:(Module.mk m.externs m.globals m.tables m.funcs)=m:=rfl
 refine fn20 m (.step fun J=> ?_)
 rw [e20,e0]
 unfold fitB
 cases hs:smallB m with
 |true=>
  have hm:okM m:=smallM.ok (of_decide_eq_true hs)
  simp (disch:=first|omega|assumption|(rw [dT];omega)|(rw [dF];omega)) only [↓iP,↓iN,iT,iF,wrap_up,tN,Nat.zero_add,h,hm]
 |false=>simp (disch:=first|omega|assumption|(rw [dT];omega)|(rw [dF];omega)) only [↓iP,↓iN,iT,iF,wrap_up,tN,Nat.zero_add,h,Bool.false_eq_true]
theorem fitB_q {m:Ev.Module} (h:fitB m=true):smallM m∧CheckQ m:=by
 unfold fitB at h
 cases hs:smallB m with
 |true=>
  rw [hs] at h
  have hm:smallM m:=of_decide_eq_true hs
  exact ⟨hm,(checkI_ok m (smallM.ok hm)).2 (beq_iff_eq.1 h)⟩
 |false=>rw [hs] at h;cases h
noncomputable def S20:List (AV Ty)→T (AV Ty×List (AV Ty))
 |[.agg x]=>match cod27.dec false x with
  |some m=> .ite (wideM m) (wideM.dec m) (.ret (.v (.bool (fitB m)),[.dead])) .fail
  |none=> .fail
 |_=> .fail
theorem S20_ok (l:List (AV Ty)) (r:AV Ty) (outs:List (AV Ty)) (h:(S20 l).val=some (r,outs)):CallOk tb Try.prog 20 l r outs:=by
 unfold S20 at h
 split at h
 ·rename_i x
  split at h
  ·rename_i m e1
   rcases ite_val h with ⟨e,h⟩|⟨_,h⟩
   ·cases h
    have h1:=cod27_ok.dec false x m e1
    subst h1
    exact fit_ok m e
   ·cases h
  ·cases h
 ·cases h
end Go.Proofs.Ytggibjbcbicpjaa.Ev
namespace Go.Proofs.Ytggibjbcbicpjaa.Ev
open Go
set_option linter.unusedVariables false
set_option linter.unusedSimpArgs false
theorem cnt_set (b x:Int): ∀(l:List Int) (i:Nat),i<l.length→(l.set i x).count b+(if l.getD i 0=b then 1 else 0)=l.count b+(if x=b then 1 else 0)
 |[],i,h=>absurd h (Nat.not_lt_zero _)
 |y :: l,0,_=>by
  simp only [List.set_cons_zero,List.getD_cons_zero,List.count_cons,beq_iff_eq]
  omega
 |y :: l,i+1,h=>by
  have:=cnt_set b x l i (Nat.lt_of_succ_lt_succ h)
  simp only [List.set_cons_succ,List.getD_cons_succ,List.count_cons,beq_iff_eq]
  omega
def xch (l:List Int) (i j:Nat):List Int:=(l.set j (l.getD i 0)).set i (l.getD j 0)
theorem xch_get {l:List Int} {i j:Nat} (hi:i<l.length) (hj:j<l.length) (k:Nat):(xch l i j).getD k 0=if k=i then l.getD j 0 else if k=j then l.getD i 0 else l.getD k 0:=by
 unfold xch
 by_cases h1:k=i
 ·subst h1
  rw [if_pos rfl]
  simp [List.getD,List.getElem?_set,hi]
 ·rw [if_neg h1]
  by_cases h2:k=j
  ·subst h2
   rw [if_pos rfl]
   simp [List.getD,List.getElem?_set,hj,Ne.symm h1]
  ·rw [if_neg h2]
   simp [List.getD,List.getElem?_set,Ne.symm h1,Ne.symm h2]
theorem xch_len (l:List Int) (i j:Nat):(xch l i j).length=l.length:=by simp [xch]
theorem xch_perm {l:List Int} {i j:Nat} (hi:i<l.length) (hj:j<l.length) (hij:i≠j):(xch l i j).Perm l:=by
 rw [List.perm_iff_count]
 intro b
 have h1:=cnt_set b (l.getD j 0) (l.set j (l.getD i 0)) i (by rw [List.length_set];exact hi)
 have h2:=cnt_set b (l.getD i 0) l j hj
 have e:(l.set j (l.getD i 0)).getD i 0=l.getD i 0:=by simp [List.getD,List.getElem?_set,Ne.symm hij]
 rw [e] at h1
 unfold xch
 omega
def Paired (φ:Int→Int) (s:List Int×List Int):Prop:=s.1.length=s.2.length∧ ∀i,i<s.2.length→s.1.getD i 0=φ (s.2.getD i 0)
theorem Paired.xch {φ:Int→Int} {a t:List Int} (h:Paired φ (a,t)) {i j:Nat} (hi:i<t.length) (hj:j<t.length):Paired φ (xch a i j,xch t i j):=by
 obtain ⟨h1,h2⟩:=h
 simp only at h1 h2
 refine ⟨by simp only [xch_len];exact h1,fun k hk=> ?_⟩
 simp only [xch_len] at hk⊢
 rw [xch_get (by omega) (by omega),xch_get hi hj]
 split
 ·exact h2 j hj
 ·split
  ·exact h2 i hi
  ·exact h2 k hk
theorem inn_pair {φ:Int→Int}: ∀(j:Nat) (s:List Int×List Int),j<s.2.length→Paired φ s→Paired φ (inn j s)∧(inn j s).2.Perm s.2
 |0,s,_,h=>⟨h, .refl _⟩
 |j+1,s,hl,h=>by
  unfold inn
  split
  ·have g:Paired φ (swp s.1 j,swp s.2 j):=h.xch (a:=s.1) (t:=s.2) (by omega) hl
   obtain ⟨g1,g2⟩:=inn_pair j _ (by simp only [swp_len];omega) g
   exact ⟨g1,g2.trans (xch_perm (by omega) hl (by omega))⟩
  ·exact ⟨h, .refl _⟩
theorem risen_pair {φ:Int→Int}: ∀(k:Nat) (s:List Int×List Int),k<s.2.length→Paired φ s→Paired φ (risen k s)∧(risen k s).2.Perm s.2
 |0,s,_,h=>⟨h, .refl _⟩
 |k+1,s,hl,h=>by
  obtain ⟨h1,h2⟩:=risen_pair k s (by omega) h
  obtain ⟨h3,h4⟩:=inn_pair (k+1) (risen k s) (by rw [h2.length_eq];exact hl) h1
  exact ⟨h3,h4.trans h2⟩
theorem sorted_pair {t:List Int} (h:Sorted t (t.length-1)):t.Pairwise (· ≤ ·):=by
 rw [List.pairwise_iff_getElem]
 intro i j hi hj hij
 have: ∀d,i+d<t.length→t.getD i 0≤t.getD (i+d) 0:=fun d=>by
  induction d with
  |zero=>intro _;exact Int.le_refl _
  |succ d ih=>
   intro hd
   have:=ih (by omega)
   have:=h (i+d) (by omega)
   rw [Nat.add_assoc] at this
   omega
 have:=this (j-i) (by omega)
 rw [show i+(j-i)=j by omega] at this
 simpa [List.getD,List.getElem?_eq_getElem hi,List.getElem?_eq_getElem hj] using this
theorem getD_ext {a b:List Int} (hl:a.length=b.length) (h: ∀i,i<a.length→a.getD i 0=b.getD i 0):a=b:=by
 refine List.ext_getElem hl fun i h1 h2=> ?_
 have:=h i h1
 simpa [List.getD,List.getElem?_eq_getElem h1,List.getElem?_eq_getElem h2] using this
theorem strict_le {t:List Int} (h:t.Pairwise (· < ·)):t.Pairwise (· ≤ ·):=h.imp fun h=>Int.le_of_lt h
theorem rise_back {a t:List Int} (hl:a.length=t.length) (ht:t.Pairwise (· < ·)) {i j:Nat} (hi:i<t.length) (hj:j<t.length) (hij:i≠j):riseF (xch a i j) (xch t i j)=(a,t):=by
 have hn: ∀k,k<t.length→t.idxOf (t.getD k 0)=k:=fun k hk=>by
  have e:t.getD k 0=t[k]:=by simp [List.getD,List.getElem?_eq_getElem hk]
  rw [e]
  have hd:t.Nodup:=ht.imp fun h=>Int.ne_of_lt h
  exact hd.idxOf_getElem k hk
 have hp:Paired (fun x=>a.getD (t.idxOf x) 0) (a,t):=⟨hl,fun k hk=>by simp only;rw [hn k hk]⟩
 have hx:=hp.xch hi hj
 obtain ⟨g1,g2⟩:=risen_pair (t.length-1) _ (by simp only [xch_len];omega) hx
 have e0:riseF (xch a i j) (xch t i j)=risen (t.length-1) (xch a i j,xch t i j):=by unfold riseF;rw [xch_len]
 rw [e0]
 have g3:(risen (t.length-1) (xch a i j,xch t i j)).2=t:=by
  refine List.Perm.eq_of_pairwise (le:=(· ≤ ·)) (fun x y _ _ h1 h2=>Int.le_antisymm h1 h2) ?_ (strict_le ht) (g2.trans (xch_perm hi hj hij))
  have:=risen_sorts (t.length-1) (xch a i j,xch t i j) (by simp only [xch_len];omega)
  refine sorted_pair ?_
  rw [g2.length_eq,xch_len]
  exact this
 generalize risen (t.length-1) (xch a i j,xch t i j)=s at*
 obtain ⟨s1,s2⟩:=s
 simp only at g3
 subst g3
 obtain ⟨k1,k2⟩:=g1
 simp only at k1 k2
 congr 1
 refine getD_ext (by omega) fun k hk=> ?_
 rw [k2 k (by omega),hn k (by omega)]
theorem rise_still {a t:List Int} (ht:t.Pairwise (· < ·)):riseF a t=(a,t):=by
 refine risen_still _ _ fun i hi=> ?_
 have h1:i<t.length:=by omega
 have h2:i+1<t.length:=by omega
 have:=List.pairwise_iff_getElem.1 ht i (i+1) h1 h2 (by omega)
 simp only [List.getD,List.getElem?_eq_getElem h1,List.getElem?_eq_getElem h2,Option.getD_some]
 omega
def Rising (b:Nat) (l:List Int) (P:List (List Int)):Prop:= ∀c,c<P.length→(P.getD c []).Pairwise (· < ·)∧ ∀e,e∈P.getD c []→e<(b:Int)+1∧((c:Int)∈l→e<b)
theorem prevStep_rises {b:Nat} {n:Int} {l:List Int} {P:List (List Int)} (hn:0≤n) (hl:(n :: l).Nodup) (h:Rising b (n :: l) P):Rising b l (prevStep b P n):=fun c hc=>by
 unfold prevStep at hc⊢
 rw [List.length_set] at hc
 obtain ⟨h1,h2⟩:=h c hc
 by_cases e:n.toNat=c
 ·have en:(c:Int)=n:=by omega
  have e1:(P.set n.toNat (P.getD n.toNat []++[(b:Int)])).getD c []=P.getD c []++[(b:Int)]:=by subst e;simp [List.getD,List.getElem?_set,hc]
  rw [e1]
  refine ⟨?_,fun x hx=> ?_⟩
  ·rw [List.pairwise_append]
   refine ⟨h1,List.pairwise_singleton _ _,fun x hx y hy=> ?_⟩
   rw [List.mem_singleton] at hy
   subst hy
   exact (h2 x hx).2 (by rw [en];exact List.mem_cons_self)
  ·rcases List.mem_append.1 hx with hx|hx
   ·exact ⟨(h2 x hx).1,fun hm=>(h2 x hx).2 (List.mem_cons_of_mem _ hm)⟩
   ·rw [List.mem_singleton] at hx
    subst hx
    refine ⟨by omega,fun hm=> ?_⟩
    rw [en] at hm
    exact absurd hm (List.nodup_cons.1 hl).1
 ·have e1:(P.set n.toNat (P.getD n.toNat []++[(b:Int)])).getD c []=P.getD c []:=by simp [List.getD,List.getElem?_set,e]
  rw [e1]
  exact ⟨h1,fun x hx=>⟨(h2 x hx).1,fun hm=>(h2 x hx).2 (List.mem_cons_of_mem _ hm)⟩⟩
theorem prevF_rises {b:Nat}: ∀(l:List Int) (P:List (List Int)),(∀n,n∈l→0≤n)→l.Nodup→Rising b l P→Rising b [] (l.foldl (prevStep b) P)
 |[],P,_,_,h=>h
 |n :: l,P,h0,hl,h=>prevF_rises l _ (fun x hx=>h0 x (List.mem_cons_of_mem _ hx)) (List.nodup_cons.1 hl).2 (prevStep_rises (h0 n List.mem_cons_self) hl h)
theorem prevN_rises {f:Ev.Func}: ∀b:Nat,Rising b ((List.range f.blocks.length).map fun (x:Nat)=>((x:Nat):Int)) ((List.range b).foldl (prevB f) (List.replicate f.blocks.length []))
 |0=>fun c hc=>by
  have e:(List.replicate f.blocks.length ([]:List Int)).getD c []=[]:=by simp [List.getD,List.getElem?_replicate];split<;>rfl
  show ((List.replicate f.blocks.length ([]:List Int)).getD c []).Pairwise _∧_
  rw [e]
  exact ⟨List.Pairwise.nil,fun x hx=>by rw [show (List.range 0).foldl (prevB f) (List.replicate f.blocks.length ([]:List Int))=List.replicate f.blocks.length [] from rfl,e] at hx;cases hx⟩
 |b+1=>by
  rw [List.range_succ,List.foldl_append,List.foldl_cons,List.foldl_nil]
  have ih:=prevN_rises (f:=f) b
  have h1:=prevF_rises (b:=b) (nextL f b) ((List.range b).foldl (prevB f) (List.replicate f.blocks.length [])) (fun n hn=>(nextL_in hn).1) (nextL_nodup f b) fun c hc=>by
   obtain ⟨g1,g2⟩:=ih c hc
   exact ⟨g1,fun x hx=>⟨(g2 x hx).1,fun hm=>(g2 x hx).2 (by
    have:=nextL_in hm
    exact List.mem_map.2 ⟨c,List.mem_range.2 (by omega),rfl⟩)⟩⟩
  intro c hc
  obtain ⟨g1,g2⟩:=h1 c hc
  exact ⟨g1,fun x hx=>by have:=(g2 x hx).1;exact ⟨by omega,fun _=>by omega⟩⟩
theorem prevL_rises {f:Ev.Func} {b:Nat} (hb:b<(prevL f).length):((prevL f).getD b []).Pairwise (· < ·):=(prevN_rises f.blocks.length b hb).1
end Go.Proofs.Ytggibjbcbicpjaa.Ev
namespace Go.Proofs.Ytggibjbcbicpjaa.Ev
open Go
set_option linter.unusedVariables false
set_option linter.unusedSimpArgs false
def NumI:Nat→List Ev.Ins→Prop
 |_,[]=>True
 |n,i :: l=>(i.type_≠0→i.to_=((n+1:Nat):Int))∧(i.type_=0→i.to_=0)∧NumI (step1 n i) l
def NumB:Nat→List Ev.Block→Prop
 |_,[]=>True
 |n,b :: l=>NumI n b.ins∧NumB (stepL n b.ins) l
theorem tyI_cons (i:Ev.Ins) (l:List Ev.Ins):(tyI (i :: l)).length=(if i.type_=0 then 0 else 1)+(tyI l).length:=by
 unfold tyI
 rw [List.filter_cons]
 by_cases h:i.type_=0
 ·rw [if_pos h,if_neg (by simp [h])];omega
 ·rw [if_neg h,if_pos (by simp [h]),List.map_cons,List.length_cons];omega
theorem stepL_ty: ∀(l:List Ev.Ins) (n:Nat),stepL n l=n+(tyI l).length
 |[],n=>rfl
 |i :: l,n=>by
  rw [stepL,stepL_ty l,tyI_cons]
  unfold step1
  split<;>omega
theorem stepB_ty: ∀(l:List Ev.Block) (n:Nat),stepB n l=n+(tyB l).length
 |[],n=>rfl
 |b :: l,n=>by
  rw [stepB,stepB_ty l,stepL_ty]
  have:tyB (b :: l)=tyI b.ins++tyB l:=rfl
  rw [this,List.length_append]
  omega
structure Shf (σ:Int→Int) (i j:Ev.Ins):Prop where
 op:j.op=i.op
 ty:j.type_=i.type_
 sy:j.sym_=i.sym_
 nu:j.num=i.num
 to_:i.type_≠0→j.to_=σ i.to_
 ar:(risI j).args=i.args.map σ
 fr:(risI j).into=i.into
def sgI (σ:Int→Int) (i:Ev.Ins):Ev.Ins:=⟨i.op,i.type_,i.to_,i.sym_,i.num,i.args.map σ,i.into⟩
def sgB (σ:Int→Int) (b:Ev.Block):Ev.Block:=⟨b.ins.map (sgI σ)⟩
def shB (sh:Ev.Ins→Ev.Ins) (b:Ev.Block):Ev.Block:=⟨b.ins.map sh⟩
theorem risI_rest (i:Ev.Ins):(risI i).sym_=i.sym_∧(risI i).num=i.num:=by
 unfold risI
 split<;>exact ⟨rfl,rfl⟩
section
variable {σ:Int→Int} {sh:Ev.Ins→Ev.Ins} {p N:Nat}
theorem num_one {i j:Ev.Ins} {n:Nat} (h:Shf σ i j) (h1:i.type_≠0→i.to_=((n+1:Nat):Int)) (h2:i.type_=0→i.to_=0):num1 n j=sgI σ i:=by
 obtain ⟨e1,e2,e3⟩:=risI_type j
 obtain ⟨e4,e5⟩:=risI_rest j
 unfold num1 sgI
 rw [e3,e1,e4,e5,h.op,h.ty,h.sy,h.nu,h.ar,h.fr]
 by_cases ht:i.type_=0
 ·rw [if_pos ht,h2 ht]
 ·rw [if_neg ht,h1 ht]
theorem step_sh {i j:Ev.Ins} (h:Shf σ i j) (n:Nat):step1 n j=step1 n i:=by unfold step1;rw [h.ty]
theorem numL_sh: ∀(l:List Ev.Ins) (n:Nat),(∀i,i∈l→Shf σ i (sh i))→NumI n l→numL n (l.map sh)=l.map (sgI σ)∧stepL n (l.map sh)=stepL n l
 |[],n,_,_=>⟨rfl,rfl⟩
 |i :: l,n,h,hn=>by
  have h0:=h i List.mem_cons_self
  obtain ⟨g1,g2⟩:=numL_sh l (step1 n i) (fun x hx=>h x (List.mem_cons_of_mem _ hx)) hn.2.2
  simp only [List.map_cons,numL,stepL,step_sh h0,num_one h0 hn.1 hn.2.1]
  exact ⟨by rw [g1],g2⟩
theorem numB_sh: ∀(l:List Ev.Block) (n:Nat),(∀b,b∈l→ ∀i,i∈b.ins→Shf σ i (sh i))→NumB n l→numB n (l.map (shB sh))=l.map (sgB σ)
 |[],n,_,_=>rfl
 |b :: l,n,h,hn=>by
  obtain ⟨g1,g2⟩:=numL_sh b.ins n (h b List.mem_cons_self) hn.1
  have ih:=numB_sh l (stepL n b.ins) (fun x hx=>h x (List.mem_cons_of_mem _ hx)) hn.2
  simp only [List.map_cons,numB]
  show Block.mk (numL n (b.ins.map sh)) :: numB (stepL n (b.ins.map sh)) (l.map (shB sh))=_
  rw [g1,g2,ih]
  rfl
def Held (σ:Int→Int) (p N:Nat) (m:List (Value×Int)) (n:Nat):Prop:=(∀v:Nat,p<v→v≤n→mget m (key (σ v))=some (v:Int))∧ ∀v:Nat,n<v→v≤N→mget m (key (σ v))=none
def Inj (σ:Int→Int) (p N:Nat):Prop:= ∀u v:Nat,p<u→u≤N→p<v→v≤N→σ u=σ v→u=v
theorem map1_sh (hi:Inj σ p N) {i j:Ev.Ins} {m:List (Value×Int)} {n:Nat} (h:Shf σ i j) (h1:i.type_≠0→i.to_=((n+1:Nat):Int)) (hp:p≤n) (hN:step1 n i≤N) (hm:Held σ p N m n):Held σ p N (map1 m n j) (step1 n i):=by
 unfold map1 step1
 unfold step1 at hN
 rw [h.ty]
 by_cases ht:i.type_=0
 ·rw [if_pos ht,if_pos ht];exact hm
 ·rw [if_neg ht] at hN
  rw [if_neg ht,if_neg ht,h.to_ ht,h1 ht,hm.2 (n+1) (by omega) hN]
  refine ⟨fun v hv hvn=> ?_,fun v hv hvN=> ?_⟩
  ·rw [mget_mput]
   by_cases e:σ v=σ ((n+1:Nat):Int)
   ·have:=hi v (n+1) hv (by omega) (by omega) hN e
    subst this
    rw [if_pos rfl]
   ·rw [if_neg e]
    refine hm.1 v hv ?_
    rcases Nat.lt_or_ge n v with h'|h'
    ·have:v=n+1:=by omega
     subst this
     exact absurd rfl e
    ·exact h'
  ·rw [mget_mput,if_neg (fun e=> ?_)]
   ·exact hm.2 v (by omega) hvN
   ·have:=hi v (n+1) (by omega) hvN (by omega) hN e
    omega
theorem mapL_sh (hi:Inj σ p N): ∀(l:List Ev.Ins) (m:List (Value×Int)) (n:Nat),(∀i,i∈l→Shf σ i (sh i))→NumI n l→p≤n→stepL n l≤N→Held σ p N m n→Held σ p N (mapL m n (l.map sh)) (stepL n l)
 |[],m,n,_,_,_,_,hm=>hm
 |i :: l,m,n,h,hn,hp,hN,hm=>by
  have h0:=h i List.mem_cons_self
  have hle:=stepL_le l (step1 n i)
  have hle2:n≤step1 n i:=by unfold step1;split<;>omega
  rw [stepL] at hN⊢
  rw [List.map_cons,mapL,step_sh h0]
  exact mapL_sh hi l _ _ (fun x hx=>h x (List.mem_cons_of_mem _ hx)) hn.2.2 (by omega) hN (map1_sh hi h0 hn.1 hp (by omega) hm)
theorem mapB_sh (hi:Inj σ p N): ∀(l:List Ev.Block) (m:List (Value×Int)) (n:Nat),(∀b,b∈l→ ∀i,i∈b.ins→Shf σ i (sh i))→NumB n l→p≤n→stepB n l≤N→Held σ p N m n→Held σ p N (mapB m n (l.map (shB sh))) (stepB n l)
 |[],m,n,_,_,_,_,hm=>hm
 |b :: l,m,n,h,hn,hp,hN,hm=>by
  have h0:=h b List.mem_cons_self
  have hle:=stepB_le l (stepL n b.ins)
  have hle2:=(stepL_le b.ins n).1
  rw [stepB] at hN⊢
  rw [List.map_cons,mapB]
  show Held σ p N (mapB (mapL m n (b.ins.map sh)) (stepL n (b.ins.map sh)) (l.map (shB sh))) _
  rw [(numL_sh b.ins n h0 hn.1).2]
  exact mapB_sh hi l _ _ (fun x hx=>h x (List.mem_cons_of_mem _ hx)) hn.2 (by omega) hN (mapL_sh hi b.ins m n h0 hn.1 hp (by omega) hm)
theorem neat_back {f:Ev.Func} (hN:(typesOf f).length=N+1) (hp:f.params.length=p) (low: ∀a:Int,1≤a→a≤p→σ a=a) (high: ∀v:Nat,p<v→v≤N→(p:Int)<σ v) (hi:Inj σ p N)
  (h: ∀b,b∈f.blocks→ ∀i,i∈b.ins→Shf σ i (sh i)) (hn:NumB p f.blocks) (ha: ∀b,b∈f.blocks→ ∀i,i∈b.ins→ ∀a,a∈i.args→1≤a∧a≤N):
  neatF ⟨f.name,f.out,f.params,f.result,f.blocks.map (shB sh)⟩=f:=by
 have hs:stepB p f.blocks=N:=by
  rw [stepB_ty]
  unfold typesOf at hN
  simp only [List.length_append,List.length_cons,List.length_nil] at hN
  omega
 have hm:=(mapB_sh hi f.blocks [] p h hn (Nat.le_refl _) (by omega) ⟨fun v h1 h2=>by omega,fun v h1 h2=>rfl⟩).1
 rw [hs] at hm
 unfold neatF neatB
 simp only [hp]
 rw [numB_sh f.blocks p h hn,List.map_map]
 generalize mapB [] p (f.blocks.map (shB sh))=m at hm
 have:f.blocks.map (subB m p ∘ sgB σ)=f.blocks:=by
  refine (List.map_congr_left fun b hb=> ?_).trans (List.map_id _)
  show Block.mk (((b.ins.map (sgI σ))).map (subI m p))=b
  rw [List.map_map]
  have:b.ins.map (subI m p ∘ sgI σ)=b.ins:=by
   refine (List.map_congr_left fun i hi=> ?_).trans (List.map_id _)
   show Ins.mk i.op i.type_ i.to_ i.sym_ i.num ((i.args.map σ).map (subV m p)) i.into=i
   rw [List.map_map]
   have:i.args.map (subV m p ∘ σ)=i.args:=by
    refine (List.map_congr_left fun a hA=> ?_).trans (List.map_id _)
    obtain ⟨a1,a2⟩:=ha b hb i hi a hA
    show subV m p (σ a)=a
    unfold subV
    by_cases e:a≤p
    ·rw [low a a1 e,if_pos ⟨a1,e⟩]
    ·obtain ⟨v,rfl⟩: ∃v:Nat,a=v:=⟨a.toNat,by omega⟩
     have:=high v (by omega) (by omega)
     rw [if_neg (fun h=>by omega),hm v (by omega) (by omega)]
     rfl
   rw [this]
  rw [this]
 rw [this]
end
section
variable {f:Ev.Func}
theorem elem_getD {α:Type} {l:List α} {k:Nat} {d:α} (h:k<l.length):l[k]=l.getD k d:=by simp [List.getD,List.getElem?_eq_getElem h]
theorem numI_of (hT:ToQ f) (hQ:FnQ f) {b:Nat} (hb:b<f.blocks.length): ∀(d k:Nat),k+d=(f.blocks.getD b (Block.mk [])).ins.length→NumI (loc f b k) ((f.blocks.getD b (Block.mk [])).ins.drop k)
 |0,k,h=>by
  rw [List.drop_eq_nil_of_le (by omega)]
  trivial
 |d+1,k,h=>by
  have hk:k<(f.blocks.getD b (Block.mk [])).ins.length:=by omega
  have e:(f.blocks.getD b (Block.mk [])).ins[k]=(f.blocks.getD b (Block.mk [])).ins.getD k (Ins.mk 0 0 0 0 0 [] []):=elem_getD hk
  rw [List.drop_eq_getElem_cons hk,e]
  have hs:loc f b (k+1)=step1 (loc f b k) ((f.blocks.getD b (Block.mk [])).ins.getD k (Ins.mk 0 0 0 0 0 [] [])):=by
   unfold loc step1
   rw [tyI_step hk]
   by_cases ht:((f.blocks.getD b (Block.mk [])).ins.getD k (Ins.mk 0 0 0 0 0 [] [])).type_=0
   ·rw [if_pos ht,if_neg (fun h=>bne_iff_ne.1 h ht),List.append_nil]
   ·rw [if_neg ht,if_pos (bne_iff_ne.2 ht),List.length_append,List.length_singleton];omega
  refine ⟨fun ht=> ?_,fun ht=>(hQ b hb k hk).2.1 ht,?_⟩
  ·have:=hT b hb k hk ht
   rw [this,hs]
   unfold step1
   rw [if_neg ht]
  ·rw [←hs]
   exact numI_of hT hQ hb d (k+1) (by omega)
theorem numB_of (hT:ToQ f) (hQ:FnQ f): ∀(d b:Nat),b+d=f.blocks.length→NumB (loc f b 0) (f.blocks.drop b)
 |0,b,h=>by
  rw [List.drop_eq_nil_of_le (by omega)]
  trivial
 |d+1,b,h=>by
  have hb:b<f.blocks.length:=by omega
  have e:f.blocks[b]=f.blocks.getD b (Block.mk []):=elem_getD hb
  rw [List.drop_eq_getElem_cons hb,e]
  have h1:=numI_of hT hQ hb _ 0 (Nat.zero_add _)
  rw [List.drop_zero] at h1
  refine ⟨h1,?_⟩
  have hs:stepL (loc f b 0) (f.blocks.getD b (Block.mk [])).ins=loc f (b+1) 0:=by
   rw [stepL_ty,loc_zero,loc_zero,tyB_step hb,List.length_append]
   omega
  rw [hs]
  exact numB_of hT hQ d (b+1) (by omega)
theorem num_of (hT:ToQ f) (hQ:FnQ f):NumB f.params.length f.blocks:=by
 have:=numB_of hT hQ _ 0 (Nat.zero_add _)
 rw [List.drop_zero,loc_zero,List.take_zero] at this
 exact this
end
end Go.Proofs.Ytggibjbcbicpjaa.Ev
namespace Go.Proofs.Ytggibjbcbicpjaa.Ev
open Go
set_option linter.unusedVariables false
set_option linter.unusedSimpArgs false
def sameX (x y:Ev.Extern):Bool:=x.name.toList == y.name.toList && x.result == y.result && same3 x.params y.params
def sameG (x y:Ev.Global):Bool:=x.name.toList == y.name.toList && same3 x.cells y.cells
def sameT (x y:Ev.Table):Bool:=x.name.toList == y.name.toList && same3 x.funcs y.funcs
def sameMP (a b:Ev.Module):Prop:=(a.externs.length=b.externs.length∧a.globals.length=b.globals.length∧a.tables.length=b.tables.length∧a.funcs.length=b.funcs.length)∧(∀i,i<a.externs.length→sameX (a.externs.getD i (Extern.mk ByteArray.empty [] 0)) (b.externs.getD i (Extern.mk ByteArray.empty [] 0))=true)∧(∀i,i<a.globals.length→sameG (a.globals.getD i (Global.mk ByteArray.empty [])) (b.globals.getD i (Global.mk ByteArray.empty []))=true)∧
 (∀i,i<a.tables.length→sameT (a.tables.getD i (Table.mk ByteArray.empty [])) (b.tables.getD i (Table.mk ByteArray.empty []))=true)∧ ∀i,i<a.funcs.length→sameFun (a.funcs.getD i (Func.mk ByteArray.empty false [] 0 [])) (b.funcs.getD i (Func.mk ByteArray.empty false [] 0 []))=true
instance sameMP.dec (a b:Ev.Module):Decidable (sameMP a b):=by unfold sameMP;infer_instance
theorem sameFun_self (f:Ev.Func):sameFun f f=true:=by unfold sameFun same3;simp
end Go.Proofs.Ytggibjbcbicpjaa.Ev
namespace Go.Proofs.Ytggibjbcbicpjaa.Ev
open Go
set_option linter.unusedVariables false
set_option linter.unusedSimpArgs false
def cI (a:List Ev.Ins):Prop:=a.length≤1000∧ ∀x,x∈a→okIns x
instance cI.dec (a:List Ev.Ins):Decidable (cI a):=by unfold cI;infer_instance
def cX (a:List Ev.Extern):Prop:=a.length≤1000∧ ∀x,x∈a→x.params.length≤1000
instance cX.dec (a:List Ev.Extern):Decidable (cX a):=by unfold cX;infer_instance
def cG (a:List Ev.Global):Prop:=a.length≤1000∧ ∀x,x∈a→x.cells.length≤1000
instance cG.dec (a:List Ev.Global):Decidable (cG a):=by unfold cG;infer_instance
def cT (a:List Ev.Table):Prop:=a.length≤1000∧ ∀x,x∈a→x.funcs.length≤1000
instance cT.dec (a:List Ev.Table):Decidable (cT a):=by unfold cT;infer_instance
end Go.Proofs.Ytggibjbcbicpjaa.Ev
namespace Go.Proofs.Ytggibjbcbicpjaa.Ev
open Go
set_option linter.unusedVariables false
set_option linter.unusedSimpArgs false
def cF (a:List Ev.Func):Prop:=a.length≤1000∧ ∀x,x∈a→okF x
instance cF.dec (a:List Ev.Func):Decidable (cF a):=by unfold cF;infer_instance
end Go.Proofs.Ytggibjbcbicpjaa.Ev
namespace Go.Proofs.Ytggibjbcbicpjaa.Ev
open Go
set_option linter.unusedVariables false
set_option linter.unusedSimpArgs false
def s22_l2 (f:Func) (v4:Int) (v5:Int) (h0:List Func) (h1:List Int):St Ty:=St.mk [(1, .ptr (0) [] (0) (0)),(3, .ref (1) [] none false),(4, .v (.int .i64 v4)),(5, .v (.int .i64 v5))] [some (Root.mk (33) false h0),some (Root.mk (3) true h1)]
section
variable {f:Ev.Func}
abbrev vb (f:Ev.Func) (i k:Nat) (out:List Int):St Ty:=s22_l2 f i k [f] out
end
end Go.Proofs.Ytggibjbcbicpjaa.Ev
namespace Go.Proofs.Ytggibjbcbicpjaa.Ev
open Go
set_option linter.unusedVariables false
set_option linter.unusedSimpArgs false
def argsI (l:List Ev.Ins):List Int:=(l.map fun i=>i.args).flatten
def argsB (l:List Ev.Block):List Int:=(l.map fun b=>argsI b.ins).flatten
def swapN (l:List Int):Nat→Int→Int
 |0,v=>v
 |k+1,v=>if 1≤v∧v<l.length∧0<l.getD v.toNat 0 then swapN l k (l.getD v.toNat 0) else v
def swapV (l:List Int) (v:Int):Int:=swapN l l.length v
end Go.Proofs.Ytggibjbcbicpjaa.Ev
namespace Go.Proofs.Ytggibjbcbicpjaa.Ev
open Go
set_option linter.unusedVariables false
set_option linter.unusedSimpArgs false
def pm {α:Type} (g:α→α) (l:List α) (j:Nat):List α:=(l.take j).map g++l.drop j
theorem pm_zero {α:Type} (g:α→α) (l:List α):pm g l 0=l:=by simp [pm]
theorem pm_all {α:Type} (g:α→α) (l:List α):pm g l l.length=l.map g:=by simp [pm]
theorem pm_len {α:Type} (g:α→α) (l:List α) (j:Nat):(pm g l j).length=l.length:=by
 simp only [pm,List.length_append,List.length_map,List.length_take,List.length_drop]
 omega
theorem pm_get {α:Type} (g:α→α) (l:List α) (j:Nat) (d:α) (hj:j<l.length):(pm g l j).getD j d=l.getD j d:=by
 simp only [pm,List.getD_eq_getElem?_getD]
 rw [List.getElem?_append_right (by simp;omega)]
 simp [show j-min j l.length=0 by omega]
theorem pm_set {α:Type} (g:α→α) (l:List α) (j:Nat) (d:α) (hj:j<l.length):(pm g l j).set j (g (l.getD j d))=pm g l (j+1):=by
 have e1:l.drop j=l.getD j d :: l.drop (j+1):=by
  rw [List.drop_eq_getElem_cons hj,List.getD_eq_getElem?_getD,List.getElem?_eq_getElem hj]
  rfl
 simp only [pm]
 rw [take_step (d:=d) hj,e1,List.map_append,List.set_append_right _ _ (by simp;omega)]
 have:j-((l.take j).map g).length=0:=by simp;omega
 rw [this,List.set_cons_zero,List.append_assoc]
 rfl
theorem getD_set_self {α:Type} {l:List α} {i:Nat} {x d:α} (h:i<l.length):(l.set i x).getD i d=x:=by simp [List.getD,List.getElem?_set,h]
theorem set_getD {α:Type} {l:List α} {i:Nat} {d:α} (h:i<l.length):l.set i (l.getD i d)=l:=by
 rw [List.getD_eq_getElem?_getD,List.getElem?_eq_getElem h]
 exact List.set_getElem_self h
def sI (l:List Int) (i:Ev.Ins):Ev.Ins:=⟨i.op,i.type_,i.to_,i.sym_,i.num,i.args.map (swapV l),i.into⟩
def sB (l:List Int) (b:Ev.Block):Ev.Block:=⟨b.ins.map (sI l)⟩
end Go.Proofs.Ytggibjbcbicpjaa.Ev
namespace Go.Proofs.Ytggibjbcbicpjaa.Ev
open Go
set_option linter.unusedVariables false
set_option linter.unusedSimpArgs false
theorem and16 (a:Int):0≤bitsI .and .i64 a 65535∧bitsI .and .i64 a 65535≤65535:=by
 have h:(BitVec.ofInt 64 a &&& BitVec.ofInt 64 65535).toNat≤65535:=by
  rw [BitVec.toNat_and]
  exact Nat.and_le_right
 have e:bitsI .and .i64 a 65535=((BitVec.ofInt 64 a &&& BitVec.ofInt 64 65535).toNat:Int):=wrap_up (x:=((BitVec.ofInt 64 a &&& BitVec.ofInt 64 65535).toNat:Int)) (by omega)
 omega
theorem pick_ok {a n:Int} (h:0<n): ∃k:Nat,(bitsI .and .i64 a 65535).tmod n=k∧(k:Int)<n:=by
 have h0:=and16 a
 have h1:=Int.tmod_nonneg n h0.1
 have h2:=Int.tmod_lt_of_pos (bitsI .and .i64 a 65535) h
 exact ⟨((bitsI .and .i64 a 65535).tmod n).toNat,by omega,by omega⟩
theorem argsI_le: ∀l:List Ev.Ins,(∀i,i∈l→okIns i)→(argsI l).length≤l.length*1000
 |[],_=>Nat.le_refl _
 |i :: l,h=>by
  have h1:=argsI_le l fun i hi=>h i (List.mem_cons_of_mem _ hi)
  have h2:=(h i List.mem_cons_self).1
  have e:argsI (i :: l)=i.args++argsI l:=rfl
  rw [e,List.length_append,List.length_cons]
  omega
theorem argsB_le: ∀l:List Ev.Block,(∀b,b∈l→okBl b)→(argsB l).length≤l.length*1000000
 |[],_=>Nat.le_refl _
 |b :: l,h=>by
  have h1:=argsB_le l fun i hi=>h i (List.mem_cons_of_mem _ hi)
  have h2:=h b List.mem_cons_self
  have h3:=argsI_le b.ins h2.2
  have h4:=h2.1
  have e:argsB (b :: l)=argsI b.ins++argsB l:=rfl
  rw [e,List.length_append,List.length_cons]
  omega
section
variable {f:Ev.Func}
theorem okF.args (h:okF f):(argsB f.blocks).length≤1000000000:=by
 have h1:=argsB_le f.blocks h.2.2
 have h2:=h.2.1
 omega
end
end Go.Proofs.Ytggibjbcbicpjaa.Ev
namespace Go.Proofs.Ytggibjbcbicpjaa.Ev
open Go
set_option linter.unusedVariables false
set_option linter.unusedSimpArgs false
def tV (p N Y:Int) (a:Int):Int:=p+1+(a-p-1+Y).tmod (N-p)
def sgV (p N Y:Int) (a:Int):Int:=if p<a then tV p N Y a else a
def toS (p N Y:Int) (i:Ev.Ins):Int:=if i.type_=0 then i.to_ else tV p N Y i.to_
def sfI (p N Y:Int) (i:Ev.Ins):Ev.Ins:=
 if i.op=26∧1<i.into.length then ⟨i.op,i.type_,toS p N Y i,i.sym_,i.num,xch (i.args.map (sgV p N Y)) (i.into.length-1) 0,xch i.into (i.into.length-1) 0⟩
 else ⟨i.op,i.type_,toS p N Y i,i.sym_,i.num,i.args.map (sgV p N Y),i.into⟩
theorem tV_in {p N Y a:Int} (hp:p<N) (hY:0≤Y) (h:p<a):p<tV p N Y a∧tV p N Y a≤N:=by
 unfold tV
 have h1:=Int.tmod_nonneg (N-p) (show 0≤a-p-1+Y by omega)
 have h2:=Int.tmod_lt_of_pos (a-p-1+Y) (show 0<N-p by omega)
 omega
theorem tV_wrap {p N Y a:Int} (h0:0≤p) (hp:p<N) (hN:N≤2000000) (hY:0≤Y∧Y≤255) (h:p<a∧a≤N):
  IntKind.i64.wrap (IntKind.i64.wrap (p+1)+(IntKind.i64.wrap (IntKind.i64.wrap (IntKind.i64.wrap (a-p)-1)+Y)).tmod (IntKind.i64.wrap (N-p)))=tV p N Y a:=by
 have h1:=tV_in (a:=a) hp hY.1 h.1
 unfold tV at h1⊢
 rw [wrap_up (x:=p+1) (by omega),wrap_up (x:=a-p) (by omega),wrap_up (x:=a-p-1) (by omega),wrap_up (x:=a-p-1+Y) (by omega),wrap_up (x:=N-p) (by omega),wrap_up (by omega)]
theorem tV_inj {p N Y a b:Int} (hp:p<N) (hY:0≤Y) (ha:p<a∧a≤N) (hb:p<b∧b≤N) (h:tV p N Y a=tV p N Y b):a=b:=by
 unfold tV at h
 rw [Int.tmod_eq_emod_of_nonneg (by omega),Int.tmod_eq_emod_of_nonneg (by omega)] at h
 have e1:=Int.mul_ediv_add_emod (a-p-1+Y) (N-p)
 have e2:=Int.mul_ediv_add_emod (b-p-1+Y) (N-p)
 generalize (a-p-1+Y) / (N-p)=q1 at*
 generalize (b-p-1+Y) / (N-p)=q2 at*
 have e3:(N-p)*(q1-q2)=a-b:=by rw [Int.mul_sub];omega
 rcases Int.lt_trichotomy q1 q2 with hq|hq|hq
 ·have:(N-p)*1≤(N-p)*(q2-q1):=Int.mul_le_mul_of_nonneg_left (by omega) (by omega)
  have e4:(N-p)*(q2-q1)= -((N-p)*(q1-q2)):=by rw [←Int.mul_neg];congr 1;omega
  omega
 ·subst hq
  rw [Int.sub_self,Int.mul_zero] at e3
  omega
 ·have:(N-p)*1≤(N-p)*(q1-q2):=Int.mul_le_mul_of_nonneg_left (by omega) (by omega)
  omega
structure InsQ (p N:Int) (i:Ev.Ins):Prop where
 ok:okIns i
 to_:i.type_≠0→p<i.to_∧i.to_≤N
 ar: ∀a,a∈i.args→1≤a∧a≤N
 phi:i.op=26→i.args.length=i.into.length∧i.into.Pairwise (· < ·)
theorem shf_id {p N:Int} {i:Ev.Ins} (h:InsQ p N i):Shf id i i:=by
 refine ⟨rfl,rfl,rfl,rfl,fun _=>rfl,?_,?_⟩
 ·rw [List.map_id]
  unfold risI
  split
  ·rename_i e;rw [rise_still (h.phi e.1).2]
  ·rfl
 ·unfold risI
  split
  ·rename_i e;rw [rise_still (h.phi e.1).2]
  ·rfl
theorem shf_sh {p N Y:Int} {i:Ev.Ins} (h:InsQ p N i):Shf (sgV p N Y) i (sfI p N Y i):=by
 have ht: ∀hh:i.type_≠0,toS p N Y i=sgV p N Y i.to_:=fun hh=>by
  unfold toS sgV
  rw [if_neg hh,if_pos (h.to_ hh).1]
 unfold sfI
 by_cases e:i.op=26∧1<i.into.length
 ·rw [if_pos e]
  obtain ⟨h1,h2⟩:=h.phi e.1
  have hr:=rise_back (a:=i.args.map (sgV p N Y)) (t:=i.into) (by rw [List.length_map];exact h1) h2 (i:=i.into.length-1) (j:=0) (by omega) (by omega) (by omega)
  refine ⟨rfl,rfl,rfl,rfl,ht,?_,?_⟩
  ·unfold risI
   rw [if_pos ⟨e.1,by simp only [xch_len,List.length_map];exact h1⟩,hr]
  ·unfold risI
   rw [if_pos ⟨e.1,by simp only [xch_len,List.length_map];exact h1⟩,hr]
 ·rw [if_neg e]
  refine ⟨rfl,rfl,rfl,rfl,ht,?_,?_⟩
  ·unfold risI
   split
   ·rename_i g;rw [rise_still (h.phi g.1).2]
   ·rfl
  ·unfold risI
   split
   ·rename_i g;rw [rise_still (h.phi g.1).2]
   ·rfl
noncomputable def b5:Code:=bodyOf Try.f5
noncomputable def C5:Cfg Ty:=⟨fun
 |24=>some ([],S24)
 |20=>some ([],S20)
 |32=>some ([],S32)
 |21=>some ([],S21)
 |26=>some ([],S26)
 |27=>some ([],S27)
 |_=>none,fun
 |8=>true
 |_=>false,218,0⟩
def U5:Cuts:=⟨fun
 |0=>some [(7,none),(8,none)]
 |1=>some [(2,none),(7,none),(8,none),(9,none),(10,none),(11,none)]
 |2=>some [(2,none),(7,none),(8,none),(9,none),(10,none),(11,none)]
 |3=>some [(2,none),(7,none),(8,none),(9,none),(10,none),(11,none),(12,none)]
 |4=>some [(2,none),(7,none),(8,none),(9,none),(10,none),(11,none),(12,none),(13,none)]
 |_=>none,fun
 |0=>some [(2,none),(7,none),(8,none),(9,none),(10,none),(11,none)]
 |2=>some [(2,none),(7,none),(8,none),(9,none),(10,none),(11,none),(12,none)]
 |4=>some [(2,none),(7,none),(8,none),(9,none),(10,none),(11,none),(12,none),(13,none),(14,none)]
 |_=>none,fun
 |5=>some [0,1,2,3,4,5,6,7,8,9,10,11]
 |7=>some [0,2,3,4,1,5,6]
 |9=>some [0,2,1,3,4]
 |24=>some [0,1,2,3,4,5,6,7,8,9,10,11,12,13,14,15,16,17,18,19,20,21,22,23,24,25]
 |27=>some [0,1,2,3,4,5,6,7,8,9,10,11,12,13,14,15,16,17,18,19,20,21,22,23,24,25]
 |28=>some [0,1,2,3,4,5,6,7,8,9,10,11,12,13,14,15,16,17,18,19,20,21,22,23,24,25]
 |29=>some [0,2,1,3,4]
 |_=>none⟩
noncomputable def k5_j0:List Item:=[.code (sndC (sndC (sndC (sndC (sndC (sndC (sndC (sndC (sndC b5)))))))))]
noncomputable def k5_l0:List Item:=[.code (inC (inC (sndC (fstC (sndC (sndC (sndC (sndC (sndC (sndC (sndC (sndC b5)))))))))))), .inLoop (inC (inC (sndC (fstC (sndC (sndC (sndC (sndC (sndC (sndC (sndC (sndC b5)))))))))))), .inBlock 0, .code (sndC (sndC (sndC (sndC (sndC (sndC (sndC (sndC (sndC b5)))))))))]
noncomputable def k5_j1:List Item:=[.code (sndC (sndC (inC (inC (sndC (fstC (sndC (sndC (sndC (sndC (sndC (sndC (sndC (sndC b5)))))))))))))), .inLoop (inC (inC (sndC (fstC (sndC (sndC (sndC (sndC (sndC (sndC (sndC (sndC b5)))))))))))), .inBlock 0, .code (sndC (sndC (sndC (sndC (sndC (sndC (sndC (sndC (sndC b5)))))))))]
noncomputable def k5_j2:List Item:=[.inBlock 1, .code (sndC (sndC (inC (inC (sndC (fstC (sndC (sndC (sndC (sndC (sndC (sndC (sndC (sndC b5)))))))))))))), .inLoop (inC (inC (sndC (fstC (sndC (sndC (sndC (sndC (sndC (sndC (sndC (sndC b5)))))))))))), .inBlock 0, .code (sndC (sndC (sndC (sndC (sndC (sndC (sndC (sndC (sndC b5)))))))))]
noncomputable def k5_l2:List Item:=[.code (inC (inC (sndC (inC (fstC (sndC (inC (inC (sndC (fstC (sndC (sndC (sndC (sndC (sndC (sndC (sndC (sndC b5)))))))))))))))))), .inLoop (inC (inC (sndC (inC (fstC (sndC (inC (inC (sndC (fstC (sndC (sndC (sndC (sndC (sndC (sndC (sndC (sndC b5)))))))))))))))))), .inBlock 2, .inBlock 1, .code (sndC (sndC (inC (inC (sndC (fstC (sndC (sndC (sndC (sndC (sndC (sndC (sndC (sndC b5)))))))))))))), .inLoop (inC (inC (sndC (fstC (sndC (sndC (sndC (sndC (sndC (sndC (sndC (sndC b5)))))))))))), .inBlock 0, .code (sndC (sndC (sndC (sndC (sndC (sndC (sndC (sndC (sndC b5)))))))))]
noncomputable def k5_j3:List Item:=[.code (sndC (sndC (inC (inC (sndC (inC (fstC (sndC (inC (inC (sndC (fstC (sndC (sndC (sndC (sndC (sndC (sndC (sndC (sndC b5)))))))))))))))))))), .inLoop (inC (inC (sndC (inC (fstC (sndC (inC (inC (sndC (fstC (sndC (sndC (sndC (sndC (sndC (sndC (sndC (sndC b5)))))))))))))))))), .inBlock 2, .inBlock 1, .code (sndC (sndC (inC (inC (sndC (fstC (sndC (sndC (sndC (sndC (sndC (sndC (sndC (sndC b5)))))))))))))), .inLoop (inC (inC (sndC (fstC (sndC (sndC (sndC (sndC (sndC (sndC (sndC (sndC b5)))))))))))), .inBlock 0, .code (sndC (sndC (sndC (sndC (sndC (sndC (sndC (sndC (sndC b5)))))))))]
noncomputable def k5_j4:List Item:=[.code (sndC (sndC (sndC (inC (fstC (sndC (inC (inC (sndC (inC (fstC (sndC (inC (inC (sndC (fstC (sndC (sndC (sndC (sndC (sndC (sndC (sndC (sndC b5)))))))))))))))))))))))), .inBlock 3, .code (sndC (sndC (inC (inC (sndC (inC (fstC (sndC (inC (inC (sndC (fstC (sndC (sndC (sndC (sndC (sndC (sndC (sndC (sndC b5)))))))))))))))))))), .inLoop (inC (inC (sndC (inC (fstC (sndC (inC (inC (sndC (fstC (sndC (sndC (sndC (sndC (sndC (sndC (sndC (sndC b5)))))))))))))))))), .inBlock 2, .inBlock 1, .code (sndC (sndC (inC (inC (sndC (fstC (sndC (sndC (sndC (sndC (sndC (sndC (sndC (sndC b5)))))))))))))), .inLoop (inC (inC (sndC (fstC (sndC (sndC (sndC (sndC (sndC (sndC (sndC (sndC b5)))))))))))), .inBlock 0, .code (sndC (sndC (sndC (sndC (sndC (sndC (sndC (sndC (sndC b5)))))))))]
noncomputable def k5_l4:List Item:=[.code (inC (inC (sndC (fstC (sndC (sndC (inC (fstC (sndC (inC (inC (sndC (inC (fstC (sndC (inC (inC (sndC (fstC (sndC (sndC (sndC (sndC (sndC (sndC (sndC (sndC b5))))))))))))))))))))))))))), .inLoop (inC (inC (sndC (fstC (sndC (sndC (inC (fstC (sndC (inC (inC (sndC (inC (fstC (sndC (inC (inC (sndC (fstC (sndC (sndC (sndC (sndC (sndC (sndC (sndC (sndC b5))))))))))))))))))))))))))), .inBlock 4, .code (sndC (sndC (sndC (inC (fstC (sndC (inC (inC (sndC (inC (fstC (sndC (inC (inC (sndC (fstC (sndC (sndC (sndC (sndC (sndC (sndC (sndC (sndC b5)))))))))))))))))))))))), .inBlock 3, .code (sndC (sndC (inC (inC (sndC (inC (fstC (sndC (inC (inC (sndC (fstC (sndC (sndC (sndC (sndC (sndC (sndC (sndC (sndC b5)))))))))))))))))))), .inLoop (inC (inC (sndC (inC (fstC (sndC (inC (inC (sndC (fstC (sndC (sndC (sndC (sndC (sndC (sndC (sndC (sndC b5)))))))))))))))))), .inBlock 2, .inBlock 1, .code (sndC (sndC (inC (inC (sndC (fstC (sndC (sndC (sndC (sndC (sndC (sndC (sndC (sndC b5)))))))))))))), .inLoop (inC (inC (sndC (fstC (sndC (sndC (sndC (sndC (sndC (sndC (sndC (sndC b5)))))))))))), .inBlock 0, .code (sndC (sndC (sndC (sndC (sndC (sndC (sndC (sndC (sndC b5)))))))))]
def a5 (m:Module) (k:Int) (y:Int):List (AV Ty):=[.agg [.sl false (91:Nat) m.externs, .sl false (94:Nat) m.globals, .sl false (96:Nat) m.tables, .sl false (33:Nat) m.funcs], .v (.int .i64 k), .v (.int .i64 y)]
noncomputable def R5 (m:Module) (k:Int) (y:Int):St Ty→EvR:=resT tb C5 Try.f5.results.toList .keep (a5 m k y)
def s5_l0 (m:Module) (k:Int) (y:Int) (v2:Int) (v9:Int) (v10:Int) (v11:Int) (h0:List Func) (h1:ByteArray) (h1_1:Bool) (h1_2:List Int) (h1_3:Int) (h1_4:List Block):St Ty:=St.mk [(2, .v (.int .i64 v2)),(7, .ptr (0) [] (0) (0)),(8, .ptr (1) [] (0) (0)),(9, .v (.int .i64 v9)),(10, .v (.int .i64 v10)),(11, .v (.int .i64 v11))] [some (Root.mk (33) false h0),some (Root.mk (33) true [Func.mk h1 h1_1 h1_2 h1_3 h1_4])]
def s5_l2 (m:Module) (k:Int) (y:Int) (v2:Int) (v9:Int) (v10:Int) (v11:Int) (v12:Int) (h0:List Func) (h1:ByteArray) (h1_1:Bool) (h1_2:List Int) (h1_3:Int) (h1_4:List Block):St Ty:=St.mk [(2, .v (.int .i64 v2)),(7, .ptr (0) [] (0) (0)),(8, .ptr (1) [] (0) (0)),(9, .v (.int .i64 v9)),(10, .v (.int .i64 v10)),(11, .v (.int .i64 v11)),(12, .v (.int .i64 v12))] [some (Root.mk (33) false h0),some (Root.mk (33) true [Func.mk h1 h1_1 h1_2 h1_3 h1_4])]
def s5_j0 (m:Module) (k:Int) (y:Int) (h0:List Func) (h1:ByteArray) (h1_1:Bool) (h1_2:List Int) (h1_3:Int) (h1_4:List Block):St Ty:=St.mk [(7, .ptr (0) [] (0) (0)),(8, .ptr (1) [] (0) (0))] [some (Root.mk (33) false h0),some (Root.mk (33) true [Func.mk h1 h1_1 h1_2 h1_3 h1_4])]
def s5_l4 (m:Module) (k:Int) (y:Int) (v2:Int) (v9:Int) (v10:Int) (v11:Int) (v12:Int) (v13:Nat) (v13_1:Nat) (v14:Int) (h0:List Func) (h1:ByteArray) (h1_1:Bool) (h1_2:List Int) (h1_3:Int) (h1_4:List Block):St Ty:=St.mk [(2, .v (.int .i64 v2)),(7, .ptr (0) [] (0) (0)),(8, .ptr (1) [] (0) (0)),(9, .v (.int .i64 v9)),(10, .v (.int .i64 v10)),(11, .v (.int .i64 v11)),(12, .v (.int .i64 v12)),(13, .ptr (1) [(0,4),(v13,0)] v13_1 (0)),(14, .v (.int .i64 v14))] [some (Root.mk (33) false h0),some (Root.mk (33) true [Func.mk h1 h1_1 h1_2 h1_3 h1_4])]
def s5_j2 (m:Module) (k:Int) (y:Int) (v2:Int) (v9:Int) (v10:Int) (v11:Int) (h0:List Func) (h1:ByteArray) (h1_1:Bool) (h1_2:List Int) (h1_3:Int) (h1_4:List Block):St Ty:=St.mk [(2, .v (.int .i64 v2)),(7, .ptr (0) [] (0) (0)),(8, .ptr (1) [] (0) (0)),(9, .v (.int .i64 v9)),(10, .v (.int .i64 v10)),(11, .v (.int .i64 v11))] [some (Root.mk (33) false h0),some (Root.mk (33) true [Func.mk h1 h1_1 h1_2 h1_3 h1_4])]
def s5_j4 (m:Module) (k:Int) (y:Int) (v2:Int) (v9:Int) (v10:Int) (v11:Int) (v12:Int) (v13:Nat) (v13_1:Nat) (h0:List Func) (h1:ByteArray) (h1_1:Bool) (h1_2:List Int) (h1_3:Int) (h1_4:List Block):St Ty:=St.mk [(2, .v (.int .i64 v2)),(7, .ptr (0) [] (0) (0)),(8, .ptr (1) [] (0) (0)),(9, .v (.int .i64 v9)),(10, .v (.int .i64 v10)),(11, .v (.int .i64 v11)),(12, .v (.int .i64 v12)),(13, .ptr (1) [(0,4),(v13,0)] v13_1 (0))] [some (Root.mk (33) false h0),some (Root.mk (33) true [Func.mk h1 h1_1 h1_2 h1_3 h1_4])]
def s5_j1 (m:Module) (k:Int) (y:Int) (v2:Int) (v9:Int) (v10:Int) (v11:Int) (h0:List Func) (h1:ByteArray) (h1_1:Bool) (h1_2:List Int) (h1_3:Int) (h1_4:List Block):St Ty:=St.mk [(2, .v (.int .i64 v2)),(7, .ptr (0) [] (0) (0)),(8, .ptr (1) [] (0) (0)),(9, .v (.int .i64 v9)),(10, .v (.int .i64 v10)),(11, .v (.int .i64 v11))] [some (Root.mk (33) false h0),some (Root.mk (33) true [Func.mk h1 h1_1 h1_2 h1_3 h1_4])]
def s5_j3 (m:Module) (k:Int) (y:Int) (v2:Int) (v9:Int) (v10:Int) (v11:Int) (v12:Int) (h0:List Func) (h1:ByteArray) (h1_1:Bool) (h1_2:List Int) (h1_3:Int) (h1_4:List Block):St Ty:=St.mk [(2, .v (.int .i64 v2)),(7, .ptr (0) [] (0) (0)),(8, .ptr (1) [] (0) (0)),(9, .v (.int .i64 v9)),(10, .v (.int .i64 v10)),(11, .v (.int .i64 v11)),(12, .v (.int .i64 v12))] [some (Root.mk (33) false h0),some (Root.mk (33) true [Func.mk h1 h1_1 h1_2 h1_3 h1_4])]
theorem e5 (J m k y):run tb C5 U5 J (R5 m k y) 4096 [.code b5] ⟨slotsA (a5 m k y) 0 0,heapA (a5 m k y)⟩=
 let z1:=(m.funcs.getD ((bitsI BinOp.and IntKind.i64 k 65535).tmod (↑m.funcs.length:Int)).toNat (Func.mk ByteArray.empty false [] 0 []))
 let z2:=(Func.mk z1.name z1.out z1.params z1.result (neatB z1.params.length z1.blocks))
 if wideM m then
 if (!fitB m)=false then
 if ((↑m.funcs.length:Int) == 0)=true then
 some (.v (.bool true),[.dead, .dead, .dead])
 else
 if (↑m.funcs.length:Int)=0 then
 none
 else
 if 0≤(bitsI BinOp.and IntKind.i64 k 65535).tmod (↑m.funcs.length:Int) then
 if (bitsI BinOp.and IntKind.i64 k 65535).tmod (↑m.funcs.length:Int)<(↑m.funcs.length:Int) then
 if okF z1 then
 if okF z1 then
 if ((↑(typesOf z1).length:Int)-1 == (↑z1.params.length:Int))=true then
 if okF z1 then
 if okF z2 then
 some (.v (.bool (sameFun z2 z1)),[.dead, .dead, .dead])
 else none
 else none
 else
 J k5_l0 (s5_l0 m k y (bitsI BinOp.and IntKind.i64 y 255) ((↑(typesOf z1).length:Int)-1) ((↑z1.params.length:Int)) 0 ([Func.mk z1.name z1.out z1.params z1.result z1.blocks]) (z1.name) (z1.out) (z1.params) (z1.result) (z1.blocks))
 else none
 else none
 else none
 else none
 else
 some (.v (.bool true),[.dead, .dead, .dead])
 else none:=by kernel_rfl
theorem e5_l0 (J m k y v2 v9 v10 v11 h0 h1 h1_1 h1_2 h1_3 h1_4):run tb C5 U5 J (R5 m k y) 4096 k5_l0 (s5_l0 m k y v2 v9 v10 v11 h0 h1 h1_1 h1_2 h1_3 h1_4)=
 if decide (v11<(↑h1_4.length:Int))=true then
 J k5_l2 (s5_l2 m k y v2 v9 v10 v11 0 h0 h1 h1_1 h1_2 h1_3 h1_4)
 else
 J k5_j0 (s5_j0 m k y h0 h1 h1_1 h1_2 h1_3 h1_4):=by kernel_rfl
theorem e5_l2 (J m k y v2 v9 v10 v11 v12 h0 h1 h1_1 h1_2 h1_3 h1_4):run tb C5 U5 J (R5 m k y) 4096 k5_l2 (s5_l2 m k y v2 v9 v10 v11 v12 h0 h1 h1_1 h1_2 h1_3 h1_4)=
 let z1:=(rdI h1_4 (0+v11.toNat) (0+v12.toNat))
 if 0≤v11 then
 if v11<(↑h1_4.length:Int) then
 if decide (v12<(↑(h1_4.getD (0+v11.toNat) (Block.mk [])).ins.length:Int))=true then
 if 0≤v11 then
 if v11<(↑h1_4.length:Int) then
 if 0≤v12 then
 if v12<(↑(h1_4.getD (0+v11.toNat) (Block.mk [])).ins.length:Int) then
 if (z1.type_ != 0)=true then
 if IntKind.i64.wrap (v9-v10)=0 then
 none
 else
 J k5_l4 (s5_l4 m k y v2 v9 v10 v11 v12 (0+v11.toNat) (0+v12.toNat) 0 h0 h1 h1_1 h1_2 h1_3 (wrI h1_4 (0+v11.toNat) (0+v12.toNat) (Ins.mk z1.op z1.type_ (IntKind.i64.wrap (IntKind.i64.wrap (v10+1)+(IntKind.i64.wrap (IntKind.i64.wrap (IntKind.i64.wrap (z1.to_-v10)-1)+v2)).tmod (IntKind.i64.wrap (v9-v10)))) z1.sym_ z1.num z1.args z1.into)))
 else
 J k5_l4 (s5_l4 m k y v2 v9 v10 v11 v12 (0+v11.toNat) (0+v12.toNat) 0 h0 h1 h1_1 h1_2 h1_3 h1_4)
 else none
 else none
 else none
 else none
 else
 J k5_j2 (s5_j2 m k y v2 v9 v10 v11 h0 h1 h1_1 h1_2 h1_3 h1_4)
 else none
 else none:=by kernel_rfl
theorem e5_j0 (J m k y h0 h1 h1_1 h1_2 h1_3 h1_4):run tb C5 U5 J (R5 m k y) 4096 k5_j0 (s5_j0 m k y h0 h1 h1_1 h1_2 h1_3 h1_4)=
 if okF (Func.mk h1 h1_1 h1_2 h1_3 h1_4) then
 if okF (Func.mk h1 h1_1 h1_2 h1_3 (neatB h1_2.length h1_4)) then
 some (.v (.bool (sameFun (Func.mk h1 h1_1 h1_2 h1_3 (neatB h1_2.length h1_4)) (h0.getD (0) (Func.mk ByteArray.empty false [] 0 [])))),[.dead, .dead, .dead])
 else none
 else none:=by kernel_rfl
theorem e5_l4 (J m k y v2 v9 v10 v11 v12 v13 v13_1 v14 h0 h1 h1_1 h1_2 h1_3 h1_4):run tb C5 U5 J (R5 m k y) 4096 k5_l4 (s5_l4 m k y v2 v9 v10 v11 v12 v13 v13_1 v14 h0 h1 h1_1 h1_2 h1_3 h1_4)=
 let z1:=(↑(rdI h1_4 v13 v13_1).args.length:Int)
 if decide (v14<z1)=true then
 if 0≤v14 then
 if v14<z1 then
 if decide ((rdI h1_4 v13 v13_1).args.getD (0+v14.toNat) 0>v10)=true then
 if 0≤v14 then
 if v14<z1 then
 if IntKind.i64.wrap (v9-v10)=0 then
 none
 else
 if 0≤v14 then
 if v14<z1 then
 J k5_l4 (s5_l4 m k y v2 v9 v10 v11 v12 v13 v13_1 (IntKind.i64.wrap (v14+1)) h0 h1 h1_1 h1_2 h1_3 (wrI h1_4 v13 v13_1 (Ins.mk (rdI h1_4 v13 v13_1).op (rdI h1_4 v13 v13_1).type_ (rdI h1_4 v13 v13_1).to_ (rdI h1_4 v13 v13_1).sym_ (rdI h1_4 v13 v13_1).num ((rdI h1_4 v13 v13_1).args.set (0+v14.toNat) (IntKind.i64.wrap (IntKind.i64.wrap (v10+1)+(IntKind.i64.wrap (IntKind.i64.wrap (IntKind.i64.wrap ((rdI h1_4 v13 v13_1).args.getD (0+v14.toNat) 0-v10)-1)+v2)).tmod (IntKind.i64.wrap (v9-v10))))) (rdI h1_4 v13 v13_1).into)))
 else none
 else none
 else none
 else none
 else
 J k5_l4 (s5_l4 m k y v2 v9 v10 v11 v12 v13 v13_1 (IntKind.i64.wrap (v14+1)) h0 h1 h1_1 h1_2 h1_3 h1_4)
 else none
 else none
 else
 J k5_j4 (s5_j4 m k y v2 v9 v10 v11 v12 v13 v13_1 h0 h1 h1_1 h1_2 h1_3 h1_4):=by kernel_rfl
theorem e5_j2 (J m k y v2 v9 v10 v11 h0 h1 h1_1 h1_2 h1_3 h1_4):run tb C5 U5 J (R5 m k y) 4096 k5_j2 (s5_j2 m k y v2 v9 v10 v11 h0 h1 h1_1 h1_2 h1_3 h1_4)=
 J k5_j1 (s5_j1 m k y v2 v9 v10 v11 h0 h1 h1_1 h1_2 h1_3 h1_4):=by kernel_rfl
theorem e5_j4 (J m k y v2 v9 v10 v11 v12 v13 v13_1 h0 h1 h1_1 h1_2 h1_3 h1_4):run tb C5 U5 J (R5 m k y) 4096 k5_j4 (s5_j4 m k y v2 v9 v10 v11 v12 v13 v13_1 h0 h1 h1_1 h1_2 h1_3 h1_4)=
 let z4:=(↑(rdI h1_4 v13 v13_1).into.length:Int)
 let z5:=(0+(IntKind.i64.wrap (z4-1)).toNat)
 let z2:=(wrI h1_4 v13 v13_1 (Ins.mk (rdI h1_4 v13 v13_1).op (rdI h1_4 v13 v13_1).type_ (rdI h1_4 v13 v13_1).to_ (rdI h1_4 v13 v13_1).sym_ (rdI h1_4 v13 v13_1).num (rdI h1_4 v13 v13_1).args ((rdI h1_4 v13 v13_1).into.set (0+Int.toNat 0) ((rdI h1_4 v13 v13_1).into.getD z5 0))))
 let z1:=(wrI z2 v13 v13_1 (Ins.mk (rdI z2 v13 v13_1).op (rdI z2 v13 v13_1).type_ (rdI z2 v13 v13_1).to_ (rdI z2 v13 v13_1).sym_ (rdI z2 v13 v13_1).num (rdI z2 v13 v13_1).args ((rdI z2 v13 v13_1).into.set z5 ((rdI h1_4 v13 v13_1).into.getD (0+Int.toNat 0) 0))))
 let z3:=(wrI z1 v13 v13_1 (Ins.mk (rdI z1 v13 v13_1).op (rdI z1 v13 v13_1).type_ (rdI z1 v13 v13_1).to_ (rdI z1 v13 v13_1).sym_ (rdI z1 v13 v13_1).num ((rdI z1 v13 v13_1).args.set (0+Int.toNat 0) ((rdI z1 v13 v13_1).args.getD z5 0)) (rdI z1 v13 v13_1).into))
 if ((rdI h1_4 v13 v13_1).op == 26)=true then
 if decide (z4>1)=true then
 if 0≤IntKind.i64.wrap (z4-1) then
 if IntKind.i64.wrap (z4-1)<z4 then
 if 0<z4 then
 if 0<z4 then
 if 0≤IntKind.i64.wrap (z4-1) then
 if IntKind.i64.wrap (z4-1)<(↑(rdI z2 v13 v13_1).into.length:Int) then
 if 0≤IntKind.i64.wrap (z4-1) then
 if IntKind.i64.wrap (z4-1)<(↑(rdI z1 v13 v13_1).args.length:Int) then
 if 0<(↑(rdI z1 v13 v13_1).args.length:Int) then
 if 0<(↑(rdI z1 v13 v13_1).args.length:Int) then
 if 0≤IntKind.i64.wrap (z4-1) then
 if IntKind.i64.wrap (z4-1)<(↑(rdI z3 v13 v13_1).args.length:Int) then
 J k5_j3 (s5_j3 m k y v2 v9 v10 v11 v12 h0 h1 h1_1 h1_2 h1_3 (wrI z3 v13 v13_1 (Ins.mk (rdI z3 v13 v13_1).op (rdI z3 v13 v13_1).type_ (rdI z3 v13 v13_1).to_ (rdI z3 v13 v13_1).sym_ (rdI z3 v13 v13_1).num ((rdI z3 v13 v13_1).args.set z5 ((rdI z1 v13 v13_1).args.getD (0+Int.toNat 0) 0)) (rdI z3 v13 v13_1).into)))
 else none
 else none
 else none
 else none
 else none
 else none
 else none
 else none
 else none
 else none
 else none
 else none
 else
 J k5_j3 (s5_j3 m k y v2 v9 v10 v11 v12 h0 h1 h1_1 h1_2 h1_3 h1_4)
 else
 J k5_j3 (s5_j3 m k y v2 v9 v10 v11 v12 h0 h1 h1_1 h1_2 h1_3 h1_4):=by kernel_rfl
theorem e5_j1 (J m k y v2 v9 v10 v11 h0 h1 h1_1 h1_2 h1_3 h1_4):run tb C5 U5 J (R5 m k y) 4096 k5_j1 (s5_j1 m k y v2 v9 v10 v11 h0 h1 h1_1 h1_2 h1_3 h1_4)=
 J k5_l0 (s5_l0 m k y v2 v9 v10 (IntKind.i64.wrap (v11+1)) h0 h1 h1_1 h1_2 h1_3 h1_4):=by kernel_rfl
theorem e5_j3 (J m k y v2 v9 v10 v11 v12 h0 h1 h1_1 h1_2 h1_3 h1_4):run tb C5 U5 J (R5 m k y) 4096 k5_j3 (s5_j3 m k y v2 v9 v10 v11 v12 h0 h1 h1_1 h1_2 h1_3 h1_4)=
 J k5_l2 (s5_l2 m k y v2 v9 v10 v11 (IntKind.i64.wrap (v12+1)) h0 h1 h1_1 h1_2 h1_3 h1_4):=by kernel_rfl

theorem fn5 (m:Ev.Module) (k y:Int) {res:AV Ty} {outs:List (AV Ty)} (h:Ends C5 U5 (R5 m k y) [.code b5] ⟨slotsA (a5 m k y) 0 0,heapA (a5 m k y)⟩ (some (res,outs))):CallOk tb Try.prog 5 (a5 m k y) res outs:=by
 obtain ⟨n0,hn⟩:=h
 exact fn_ok (C:=C5) (U:=U5) (n:=0+n0) (q:= .keep) tbOk good (fun f mu S h=>by
  unfold C5 at h
  simp only at h
  split at h
  ·cases h;exact ⟨in24,S24_ok⟩
  ·cases h;exact ⟨in20,S20_ok⟩
  ·cases h;exact ⟨in32,S32_ok⟩
  ·cases h;exact ⟨in21,S21_ok⟩
  ·cases h;exact ⟨in26,S26_ok⟩
  ·cases h;exact ⟨in27,S27_ok⟩
  ·cases h) mixed (fn:=Try.f5) (body:=b5) (by kernel_rfl) (by kernel_rfl) rfl rfl (by show 3≤218;omega) (hn 0)
section
variable {m:Ev.Module} {k y:Int} {f:Ev.Func} {p N:Nat} {Y:Int}
abbrev S2 (m:Ev.Module) (k y Y:Int) (N p:Nat) (f:Ev.Func) (b j:Nat) (B:List Ev.Block):St Ty:=s5_l2 m k y Y N p b j [f] f.name f.out f.params f.result B
abbrev S4 (m:Ev.Module) (k y Y:Int) (N p:Nat) (f:Ev.Func) (b i j:Nat) (B:List Ev.Block):St Ty:=s5_l4 m k y Y N p b i b i j [f] f.name f.out f.params f.result B
def mkI (x:Ev.Ins) (t:Int) (a c:List Int):Ev.Ins:=⟨x.op,x.type_,t,x.sym_,x.num,a,c⟩
theorem Shu.arg (hp:p<N) (hN:N≤2000000) (hY:0≤Y∧Y≤255) {b i j:Nat} {x:Ev.Ins} {t:Int} {P:List Ev.Block} {Q:List Ev.Ins} (hb:b<P.length) (hk:i<Q.length) (hx:InsQ p N x) (hj:j<x.args.length):
  Goes C5 U5 (R5 m k y) k5_l4 (S4 m k y Y N p f b i j (P.set b ⟨Q.set i (mkI x t (pm (sgV p N Y) x.args j) x.into)⟩)) k5_l4 (S4 m k y Y N p f b i (j+1) (P.set b ⟨Q.set i (mkI x t (pm (sgV p N Y) x.args (j+1)) x.into)⟩)):= .step fun J=>by
 have hA:=hx.ok.1
 have w:IntKind.i64.wrap ((j:Int)+1)=((j+1:Nat):Int):=wrap_nat (by omega) (by omega)
 have rd: ∀z,rdI (P.set b ⟨Q.set i z⟩) b i=z:=fun z=>by
  unfold rdI
  rw [getD_set_self hb,getD_set_self hk]
 have wr: ∀z u,wrI (P.set b ⟨Q.set i z⟩) b i u=P.set b ⟨Q.set i u⟩:=fun z u=>by
  unfold wrI
  rw [getD_set_self hb,List.set_set,List.set_set]
 have hlen:=pm_len (sgV p N Y) x.args j
 have hget:=pm_get (sgV p N Y) x.args j 0 hj
 have ha:=hx.ar _ (getD_mem (d:=0) hj)
 have hs:=pm_set (sgV p N Y) x.args j 0 hj
 have wN: ¬IntKind.i64.wrap ((N:Int)-p)=0:=by rw [wrap_up (by omega)];omega
 rw [S4,e5_l4]
 simp only [rd,wr,mkI,Int.toNat_natCast,Nat.zero_add,hlen,hget,w]
 by_cases e:(p:Int)<x.args.getD j 0
 ·have hv:sgV p N Y (x.args.getD j 0)=tV p N Y (x.args.getD j 0):=by unfold sgV;rw [if_pos e]
  rw [tV_wrap (by omega) (by omega) (by omega) hY ⟨e,ha.2⟩,←hv,hs]
  simp (disch:=first|omega|assumption|(rw [dT];omega)|(rw [dF];omega)) only [↓iP,↓iN,iT,iF,wrap_up,tN,Nat.zero_add,if_neg wN]
 ·have hv:sgV p N Y (x.args.getD j 0)=x.args.getD j 0:=by unfold sgV;rw [if_neg e]
  rw [hv,←hget,set_getD (by omega)] at hs
  rw [←hs]
  have d1:decide (x.args.getD j 0>(p:Int))=false:=decide_eq_false e
  simp (disch:=first|omega|assumption|(rw [dT];omega)|(rw [dF];omega)) only [↓iP,↓iN,iT,iF,wrap_up,tN,Nat.zero_add,d1,Bool.false_eq_true]
theorem Shu.ins (hp:p<N) (hN:N≤2000000) (hY:0≤Y∧Y≤255) (hf:okF f) (hq: ∀b,b∈f.blocks→ ∀i,i∈b.ins→InsQ p N i) {b i:Nat} (hb:b<f.blocks.length) (hi:i<(f.blocks.getD b (Block.mk [])).ins.length) {P:List Ev.Block} (hP:P.length=f.blocks.length):
  Goes C5 U5 (R5 m k y) k5_l2 (S2 m k y Y N p f b i (P.set b ⟨pm (sfI p N Y) (f.blocks.getD b (Block.mk [])).ins i⟩)) k5_l2 (S2 m k y Y N p f b (i+1) (P.set b ⟨pm (sfI p N Y) (f.blocks.getD b (Block.mk [])).ins (i+1)⟩)):=by
 have h0:=hf.2.1
 have h1:=(hf.2.2 _ (getD_mem (d:=(Block.mk [])) hb)).1
 have hx:=hq _ (getD_mem (d:=(Block.mk [])) hb) _ (getD_mem (d:=(Ins.mk 0 0 0 0 0 [] [])) hi)
 have w:IntKind.i64.wrap ((i:Int)+1)=((i+1:Nat):Int):=wrap_nat (by omega) (by omega)
 have hQ:=pm_len (sfI p N Y) (f.blocks.getD b (Block.mk [])).ins i
 have hg:=pm_get (sfI p N Y) (f.blocks.getD b (Block.mk [])).ins i (Ins.mk 0 0 0 0 0 [] []) hi
 have hs:=pm_set (sfI p N Y) (f.blocks.getD b (Block.mk [])).ins i (Ins.mk 0 0 0 0 0 [] []) hi
 have wN: ¬IntKind.i64.wrap ((N:Int)-p)=0:=by rw [wrap_up (by omega)];omega
 have hself:(pm (sfI p N Y) (f.blocks.getD b (Block.mk [])).ins i).set i ((f.blocks.getD b (Block.mk [])).ins.getD i (Ins.mk 0 0 0 0 0 [] []))=pm (sfI p N Y) (f.blocks.getD b (Block.mk [])).ins i:=by
  rw [←hg]
  exact set_getD (by omega)
 generalize pm (sfI p N Y) (f.blocks.getD b (Block.mk [])).ins (i+1)=Q' at*
 generalize pm (sfI p N Y) (f.blocks.getD b (Block.mk [])).ins i=Q at*
 generalize (f.blocks.getD b (Block.mk [])).ins.getD i (Ins.mk 0 0 0 0 0 [] [])=x at*
 have hbP:b<P.length:=by omega
 have hiQ:i<Q.length:=by omega
 have rd: ∀z,rdI (P.set b ⟨Q.set i z⟩) b i=z:=fun z=>by
  unfold rdI
  rw [getD_set_self hbP,getD_set_self hiQ]
 have wr: ∀z u,wrI (P.set b ⟨Q.set i z⟩) b i u=P.set b ⟨Q.set i u⟩:=fun z u=>by
  unfold wrI
  rw [getD_set_self hbP,List.set_set,List.set_set]
 have rd0:=rd x
 have wr0:=wr x
 rw [hself] at rd0 wr0
 have hlenb:((P.set b ⟨Q⟩).getD b (Block.mk [])).ins.length=(f.blocks.getD b (Block.mk [])).ins.length:=by rw [getD_set_self hbP];exact hQ
 have hlenP:(P.set b ⟨Q⟩).length=P.length:=List.length_set
 refine Goes.trans (k':=k5_l4) (s':=S4 m k y Y N p f b i 0 (P.set b ⟨Q.set i (mkI x (toS p N Y x) (pm (sgV p N Y) x.args 0) x.into)⟩)) (.step fun J=> ?_) ?_
 ·rw [S2,e5_l2,pm_zero]
  simp only [Int.toNat_natCast,Nat.zero_add,rd0,wr0,hlenb,hlenP]
  by_cases ht:x.type_=0
  ·have b1:(x.type_ != 0)=false:=by rw [ht];rfl
   have e1:mkI x (toS p N Y x) x.args x.into=x:=by unfold mkI toS;rw [if_pos ht]
   rw [e1,hself]
   simp (disch:=first|omega|assumption|(rw [dT];omega)|(rw [dF];omega)) only [↓iP,↓iN,iT,iF,wrap_up,tN,Nat.zero_add,b1,Bool.false_eq_true]
   rfl
  ·have b1:(x.type_ != 0)=true:=bne_iff_ne.2 ht
   have e1:toS p N Y x=tV p N Y x.to_:=by unfold toS;rw [if_neg ht]
   rw [tV_wrap (by omega) (by omega) (by omega) hY (hx.to_ ht),e1]
   simp (disch:=first|omega|assumption|(rw [dT];omega)|(rw [dF];omega)) only [↓iP,↓iN,iT,iF,wrap_up,tN,Nat.zero_add,b1,if_neg wN]
   rfl
 refine Goes.trans (Goes.upto (fun j=>S4 m k y Y N p f b i j (P.set b ⟨Q.set i (mkI x (toS p N Y x) (pm (sgV p N Y) x.args j) x.into)⟩)) x.args.length (fun j hj=>Shu.arg hp hN hY hbP hiQ hx hj) _ (Nat.le_refl _)) ?_
 rw [pm_all]
 refine Goes.trans (k':=k5_j4) (s':=s5_j4 m k y Y N p b i b i [f] f.name f.out f.params f.result (P.set b ⟨Q.set i (mkI x (toS p N Y x) (x.args.map (sgV p N Y)) x.into)⟩)) (.step fun J=> ?_) (.trans (k':=k5_j3) (s':=s5_j3 m k y Y N p b i [f] f.name f.out f.params f.result (P.set b ⟨Q'⟩)) (.step fun J=> ?_) (.step fun J=> ?_))
 ·rw [S4,e5_l4]
  simp only [rd,mkI,List.length_map]
  simp (disch:=first|omega|assumption|(rw [dT];omega)|(rw [dF];omega)) only [↓iP,↓iN,iT,iF,wrap_up,tN,Nat.zero_add]
 ·rw [e5_j4,←hs]
  simp only [rd,wr,mkI]
  have h2:=hx.ok.2
  by_cases e:x.op=26
  ·have b1:(x.op == (26:Int))=true:=beq_iff_eq.2 e
   have hl:=(hx.phi e).1
   by_cases e2:1<x.into.length
   ·have d1:decide ((x.into.length:Int)>1)=true:=decide_eq_true (by omega)
    have wL:IntKind.i64.wrap ((x.into.length:Int)-1)=((x.into.length-1:Nat):Int):=wrap_nat (by omega) (by omega)
    have e3:sfI p N Y x=⟨x.op,x.type_,toS p N Y x,x.sym_,x.num,xch (x.args.map (sgV p N Y)) (x.into.length-1) 0,xch x.into (x.into.length-1) 0⟩:=by unfold sfI;rw [if_pos ⟨e,e2⟩]
    have t0:Int.toNat 0=0:=rfl
    simp only [b1,d1,wL,Int.toNat_natCast,Nat.zero_add,t0,List.length_set,List.length_map]
    simp (disch:=first|omega|assumption|(rw [dT];omega)|(rw [dF];omega)) only [↓iP,↓iN,iT,iF,wrap_up,tN,Nat.zero_add]
    rw [e3]
    rfl
   ·have d1:decide ((x.into.length:Int)>1)=false:=decide_eq_false (by omega)
    have e3:sfI p N Y x=⟨x.op,x.type_,toS p N Y x,x.sym_,x.num,x.args.map (sgV p N Y),x.into⟩:=by unfold sfI;rw [if_neg (fun h=>e2 h.2)]
    simp only [b1,d1,Bool.false_eq_true,if_true,if_false,e3]
  ·have b1:(x.op == (26:Int))=false:=beq_eq_false_iff_ne.2 e
   have e3:sfI p N Y x=⟨x.op,x.type_,toS p N Y x,x.sym_,x.num,x.args.map (sgV p N Y),x.into⟩:=by unfold sfI;rw [if_neg (fun h=>e h.1)]
   simp only [b1,Bool.false_eq_true,if_false,e3]
 ·rw [e5_j3,w]
theorem Shu.block (hp:p<N) (hN:N≤2000000) (hY:0≤Y∧Y≤255) (hf:okF f) (hq: ∀b,b∈f.blocks→ ∀i,i∈b.ins→InsQ p N i) {b:Nat} (hb:b<f.blocks.length):
  Goes C5 U5 (R5 m k y) k5_l0 (s5_l0 m k y Y N p b [f] f.name f.out f.params f.result (pm (shB (sfI p N Y)) f.blocks b)) k5_l0 (s5_l0 m k y Y N p (b+1:Nat) [f] f.name f.out f.params f.result (pm (shB (sfI p N Y)) f.blocks (b+1))):=by
 have h0:=hf.2.1
 have h1:=(hf.2.2 _ (getD_mem (d:=(Block.mk [])) hb)).1
 have w:IntKind.i64.wrap ((b:Int)+1)=((b+1:Nat):Int):=wrap_nat (by omega) (by omega)
 have hP:=pm_len (shB (sfI p N Y)) f.blocks b
 have hg:=pm_get (shB (sfI p N Y)) f.blocks b (Block.mk []) hb
 have hs:=pm_set (shB (sfI p N Y)) f.blocks b (Block.mk []) hb
 have hself:(pm (shB (sfI p N Y)) f.blocks b).set b (f.blocks.getD b (Block.mk []))=pm (shB (sfI p N Y)) f.blocks b:=by
  rw [←hg]
  exact set_getD (by omega)
 generalize pm (shB (sfI p N Y)) f.blocks b=P at*
 refine Goes.trans (k':=k5_l2) (s':=S2 m k y Y N p f b 0 (P.set b ⟨pm (sfI p N Y) (f.blocks.getD b (Block.mk [])).ins 0⟩)) (.step fun J=> ?_) ?_
 ·rw [e5_l0,pm_zero,show (⟨(f.blocks.getD b (Block.mk [])).ins⟩:Ev.Block)=f.blocks.getD b (Block.mk []) from rfl,hself]
  simp (disch:=first|omega|assumption|(rw [dT];omega)|(rw [dF];omega)) only [↓iP,↓iN,iT,iF,wrap_up,tN,Nat.zero_add]
  rfl
 refine (Goes.upto (fun i=>S2 m k y Y N p f b i (P.set b ⟨pm (sfI p N Y) (f.blocks.getD b (Block.mk [])).ins i⟩)) _ (fun i hi=>Shu.ins hp hN hY hf hq hb hi hP) _ (Nat.le_refl _)).trans ?_
 rw [pm_all,show (⟨(f.blocks.getD b (Block.mk [])).ins.map (sfI p N Y)⟩:Ev.Block)=shB (sfI p N Y) (f.blocks.getD b (Block.mk [])) from rfl,hs]
 refine Goes.trans (k':=k5_j2) (s':=s5_j2 m k y Y N p b [f] f.name f.out f.params f.result (pm (shB (sfI p N Y)) f.blocks (b+1))) (.step fun J=> ?_) (.trans (.step fun J=>e5_j2 ..) (.step fun J=> ?_))
 ·have hlen:((pm (shB (sfI p N Y)) f.blocks (b+1)).getD b (Block.mk [])).ins.length=(f.blocks.getD b (Block.mk [])).ins.length:=by
   rw [←hs,getD_set_self (by omega)]
   simp only [shB,List.length_map]
  have hl2:=pm_len (shB (sfI p N Y)) f.blocks (b+1)
  rw [S2,e5_l2]
  simp only [Int.toNat_natCast,Nat.zero_add,hlen]
  simp (disch:=first|omega|assumption|(rw [dT];omega)|(rw [dF];omega)) only [↓iP,↓iN,iT,iF,wrap_up,tN,Nat.zero_add]
 ·rw [e5_j1,w]
end
theorem shF_ok {f:Ev.Func} (h:okF f) (p N Y:Int):okF ⟨f.name,f.out,f.params,f.result,f.blocks.map (shB (sfI p N Y))⟩:=by
 refine ⟨h.1,by rw [List.length_map];exact h.2.1,fun b hb=> ?_⟩
 obtain ⟨b',hb',rfl⟩:=List.mem_map.1 hb
 have h2:=h.2.2 b' hb'
 refine ⟨by simp only [shB,List.length_map];exact h2.1,fun i hi=> ?_⟩
 obtain ⟨i',hi',rfl⟩:=List.mem_map.1 hi
 have h3:=h2.2 i' hi'
 unfold sfI okIns
 split
 ·simp only [xch_len,List.length_map];exact h3
 ·simp only [List.length_map];exact h3
theorem mem_idx {α:Type} {l:List α} {x d:α} (h:x∈l): ∃n,n<l.length∧l.getD n d=x:=by
 obtain ⟨n,hn,e⟩:=List.getElem_of_mem h
 exact ⟨n,hn,by rw [←elem_getD hn,e]⟩
end Go.Proofs.Ytggibjbcbicpjaa.Ev
namespace Go.Proofs.Ytggibjbcbicpjaa.Ev
open Go
set_option linter.unusedVariables false
set_option linter.unusedSimpArgs false
theorem and255 (a:Int):0≤bitsI .and .i64 a 255∧bitsI .and .i64 a 255≤255:=by
 have h:(BitVec.ofInt 64 a &&& BitVec.ofInt 64 255).toNat≤255:=by
  rw [BitVec.toNat_and]
  exact Nat.and_le_right
 have e:bitsI .and .i64 a 255=((BitVec.ofInt 64 a &&& BitVec.ofInt 64 255).toNat:Int):=wrap_up (x:=((BitVec.ofInt 64 a &&& BitVec.ofInt 64 255).toNat:Int)) (by omega)
 omega
section
variable {f:Ev.Func} {p N:Nat}
theorem insQ_of (hf:okF f) (hT:ToQ f) (hQ:FnQ f) (hA:ArgQ f) (hF:FlowQ f) (hp:f.params.length=p) (hN:(typesOf f).length=N+1): ∀b,b∈f.blocks→ ∀i,i∈b.ins→InsQ p N i:=fun b hb i hi=>by
 obtain ⟨c,hc,rfl⟩:=mem_idx (d:=(Block.mk [])) hb
 obtain ⟨k,hk,rfl⟩:=mem_idx (d:=(Ins.mk 0 0 0 0 0 [] [])) hi
 refine ⟨(hf.2.2 _ hb).2 _ hi,fun ht=> ?_,fun a ha=> ?_,fun h26=> ?_⟩
 ·have h1:=hT c hc k hk ht
  have h2:=loc_le (f:=f) (k:=k+1) hc
  have h3:=loc_step hk
  rw [if_pos (bne_iff_ne.2 ht)] at h3
  have h4:f.params.length≤loc f c k:=by unfold loc;omega
  rw [h1]
  omega
 ·obtain ⟨j,hj,rfl⟩:=mem_idx (d:=(0:Int)) ha
  have:=hA c hc k hk j hj
  omega
 ·have h1:=hF.2 c hc k hk h26
  have h2:=(hQ c hc k hk).1
  refine ⟨(h2.2.2.2.2.2.2.1 h26).2.symm,?_⟩
  rw [h1.2]
  exact prevL_rises (by rw [(prevL_in hf).1];exact hc)
end
theorem shuffled_ok (m:Ev.Module) (k y:Int) (hw:wideM m):CallOk tb Try.prog 5 (a5 m k y) (.v (.bool true)) [.dead, .dead, .dead]:=by
 have hE:=fun J=>e5 J m k y
 refine fn5 m k y ?_
 cases hf:fitB m with
 |false=>
  simp only [if_pos hw,hf,Bool.not_false,Bool.true_eq_false,if_false] at hE
  exact .step hE
 |true=>
  have hq:=fitB_q hf
  have hm:=hq.1.ok
  have hml:=hm.1.2.2.2
  by_cases h0:m.funcs.length=0
  ·have b0:((m.funcs.length:Int) == 0)=true:=by rw [h0];rfl
   simp only [if_pos hw,hf,Bool.not_true,if_true,b0] at hE
   exact .step hE
  obtain ⟨K,hK,hKl⟩:=pick_ok (a:=k) (n:=(m.funcs.length:Int)) (by omega)
  have hKn:K<m.funcs.length:=by omega
  have b0:((m.funcs.length:Int) == 0)=false:=beq_eq_false_iff_ne.2 (by omega)
  have hF:okF (m.funcs.getD K (Func.mk ByteArray.empty false [] 0 [])):=hm.f hKn
  have hQ:=hq.2.2.1 K hKn
  have hR:=hq.2.2.2.2 K hKn
  simp only [if_pos hw,hf,Bool.not_true,b0,hK,Int.toNat_natCast] at hE
  generalize m.funcs.getD K (Func.mk ByteArray.empty false [] 0 [])=f at hF hQ hR hE
  obtain ⟨hW,hT,hA⟩:=hR
  have hi: ¬(m.funcs.length:Int)=0:=by omega
  have hk0:(0:Int)≤(K:Int):=by omega
  obtain ⟨p,hp⟩: ∃p,f.params.length=p:=⟨_,rfl⟩
  have htl:=types_len hF
  obtain ⟨N,hN⟩: ∃N,(typesOf f).length=N+1:=⟨f.params.length+(tyB f.blocks).length,by omega⟩
  have hn1:((typesOf f).length:Int)-1=(N:Int):=by omega
  have hI:=insQ_of hF hT hQ hA hW hp hN
  have hU:=num_of hT hQ
  rw [hp] at hU
  have hAr: ∀b,b∈f.blocks→ ∀i,i∈b.ins→ ∀a,a∈i.args→1≤a∧a≤N:=fun b hb i hi=>(hI b hb i hi).ar
  have e0:(Func.mk f.name f.out f.params f.result f.blocks)=f:=rfl
  simp only [hn1,if_neg hi,if_pos hk0,if_pos hKl,if_pos hF,if_true,Bool.false_eq_true,if_false,e0] at hE
  by_cases hNp:N=p
  ·have b1:((N:Int) == (f.params.length:Int))=true:=by rw [hp,hNp];exact beq_self_eq_true ..
   have e1:(Func.mk f.name f.out f.params f.result (neatB f.params.length f.blocks))=f:=by
    have h1:=neat_back (σ:=id) (sh:=id) hN hp (fun _ _ _=>rfl) (fun v h _=>by show (p:Int)<(v:Int);omega) (fun u v _ _ _ _ h=>by have h:(u:Int)=(v:Int):=h;omega) (fun b hb i hi=>shf_id (hI b hb i hi)) hU hAr
    have h2:f.blocks.map (shB id)=f.blocks:=(List.map_congr_left fun b hb=>by show Block.mk (b.ins.map id)=b;rw [List.map_id]).trans (List.map_id _)
    rw [h2] at h1
    exact h1
   simp only [b1,if_true,e1,if_pos hF,sameFun_self] at hE
   exact .step hE
  have hpN:p<N:=by have:=htl.1;omega
  have b1:((N:Int) == (p:Int))=false:=beq_eq_false_iff_ne.2 (by omega)
  have hY:=and255 y
  generalize bitsI .and .i64 y 255=Y at hY hE
  simp only [hp] at hE
  simp only [b1,Bool.false_eq_true,if_false] at hE
  refine Goes.ends (.step hE) (Goes.ends (Goes.upto (fun b=>s5_l0 m k y Y N p b [f] f.name f.out f.params f.result (pm (shB (sfI p N Y)) f.blocks b)) f.blocks.length (fun b hb=>Shu.block hpN (by omega) hY hF hI hb) _ (Nat.le_refl _)) ?_)
  rw [pm_all]
  have hG:=shF_ok hF p N Y
  have e2:(Func.mk f.name f.out f.params f.result (neatB f.params.length (f.blocks.map (shB (sfI p N Y)))))=f:=
   neat_back (σ:=sgV p N Y) (sh:=sfI p N Y) hN hp (fun a _ h=>by unfold sgV;rw [if_neg (by omega)]) (fun v h1 h2=>by unfold sgV;rw [if_pos (by omega)];exact (tV_in (by omega) hY.1 (by omega)).1)
    (fun u v h1 h2 h3 h4 h=>by
     unfold sgV at h
     rw [if_pos (by omega),if_pos (by omega)] at h
     have:=tV_inj (by omega) hY.1 ⟨by omega,by omega⟩ ⟨by omega,by omega⟩ h
     omega)
    (fun b hb i hi=>shf_sh (hI b hb i hi)) hU hAr
  refine Goes.ends (k':=k5_j0) (s':=s5_j0 m k y [f] f.name f.out f.params f.result (f.blocks.map (shB (sfI p N Y)))) (.step fun J=> ?_) (.step fun J=> ?_)
  ·rw [e5_l0]
   have d1:decide ((f.blocks.length:Int)<((f.blocks.map (shB (sfI p N Y))).length:Int))=false:=decide_eq_false (by rw [List.length_map];omega)
   simp only [d1,Bool.false_eq_true,if_false]
  ·rw [e5_j0]
   simp only [List.getD_cons_zero,e2,if_pos hG,if_pos hF,sameFun_self]
end Go.Proofs.Ytggibjbcbicpjaa.Ev
namespace Go.Proofs.Ytggibjbcbicpjaa.Ev
open Go
set_option linter.unusedVariables false
set_option linter.unusedSimpArgs false
theorem reads:Reads tb:=by
 intro t h
 have h0:isRd tb t=true:=h
 have h:hasA t=true:=isRd_has h
 unfold hasA at h
 split at h
 ·refine ⟨by show 0<1;omega,[.int .i64],by kernel_rfl,rfl,fun l h=> ?_⟩
  match l,h.1 with
  |[a0],_=>
   obtain ⟨_,rfl⟩:=leaf_int (h.2 0 _ _ rfl rfl)
   exact ⟨_,rfl⟩
 ·refine ⟨by show 0<1;omega,[.int .i64],by kernel_rfl,rfl,fun l h=> ?_⟩
  match l,h.1 with
  |[a0],_=>
   obtain ⟨_,rfl⟩:=leaf_int (h.2 0 _ _ rfl rfl)
   exact ⟨_,rfl⟩
 ·refine ⟨by show 0<1;omega,[.bool],by kernel_rfl,rfl,fun l h=> ?_⟩
  match l,h.1 with
  |[a0],_=>
   obtain ⟨_,rfl⟩:=leaf_bool (h.2 0 _ _ rfl rfl)
   exact ⟨_,rfl⟩
 ·refine ⟨by show 0<1;omega,[.int .u8],by kernel_rfl,rfl,fun l h=> ?_⟩
  match l,h.1 with
  |[a0],_=>
   obtain ⟨_,rfl⟩:=leaf_int (h.2 0 _ _ rfl rfl)
   exact ⟨_,rfl⟩
 ·refine ⟨by show 0<1;omega,[.str],by kernel_rfl,rfl,fun l h=> ?_⟩
  match l,h.1 with
  |[a0],_=>
   obtain ⟨_,rfl⟩:=leaf_str (h.2 0 _ _ rfl rfl)
   exact ⟨_,rfl⟩
 ·refine ⟨by show 0<1;omega,[.sl 91],by kernel_rfl,rfl,fun l h=> ?_⟩
  match l,h.1 with
  |[a0],_=>
   obtain ⟨_,rfl⟩:=leaf_sl (h.2 0 _ _ rfl rfl)
   exact ⟨_,rfl⟩
 ·refine ⟨by show 0<1;omega,[.sl 94],by kernel_rfl,rfl,fun l h=> ?_⟩
  match l,h.1 with
  |[a0],_=>
   obtain ⟨_,rfl⟩:=leaf_sl (h.2 0 _ _ rfl rfl)
   exact ⟨_,rfl⟩
 ·refine ⟨by show 0<1;omega,[.sl 96],by kernel_rfl,rfl,fun l h=> ?_⟩
  match l,h.1 with
  |[a0],_=>
   obtain ⟨_,rfl⟩:=leaf_sl (h.2 0 _ _ rfl rfl)
   exact ⟨_,rfl⟩
 ·refine ⟨by show 0<1;omega,[.sl 33],by kernel_rfl,rfl,fun l h=> ?_⟩
  match l,h.1 with
  |[a0],_=>
   obtain ⟨_,rfl⟩:=leaf_sl (h.2 0 _ _ rfl rfl)
   exact ⟨_,rfl⟩
 ·refine ⟨by show 0<4;omega,[.sl 91, .sl 94, .sl 96, .sl 33],by kernel_rfl,rfl,fun l h=> ?_⟩
  match l,h.1 with
  |[a0,a1,a2,a3],_=>
   obtain ⟨_,rfl⟩:=leaf_sl (h.2 0 _ _ rfl rfl)
   obtain ⟨_,rfl⟩:=leaf_sl (h.2 1 _ _ rfl rfl)
   obtain ⟨_,rfl⟩:=leaf_sl (h.2 2 _ _ rfl rfl)
   obtain ⟨_,rfl⟩:=leaf_sl (h.2 3 _ _ rfl rfl)
   exact ⟨_,rfl⟩
 ·refine ⟨by show 0<1;omega,[.sl 3],by kernel_rfl,rfl,fun l h=> ?_⟩
  match l,h.1 with
  |[a0],_=>
   obtain ⟨_,rfl⟩:=leaf_sl (h.2 0 _ _ rfl rfl)
   exact ⟨_,rfl⟩
 ·refine ⟨by show 0<1;omega,[.sl 44],by kernel_rfl,rfl,fun l h=> ?_⟩
  match l,h.1 with
  |[a0],_=>
   obtain ⟨_,rfl⟩:=leaf_sl (h.2 0 _ _ rfl rfl)
   exact ⟨_,rfl⟩
 ·refine ⟨by show 0<5;omega,[.str, .bool, .sl 3, .int .i64, .sl 44],by kernel_rfl,rfl,fun l h=> ?_⟩
  match l,h.1 with
  |[a0,a1,a2,a3,a4],_=>
   obtain ⟨_,rfl⟩:=leaf_str (h.2 0 _ _ rfl rfl)
   obtain ⟨_,rfl⟩:=leaf_bool (h.2 1 _ _ rfl rfl)
   obtain ⟨_,rfl⟩:=leaf_sl (h.2 2 _ _ rfl rfl)
   obtain ⟨_,rfl⟩:=leaf_int (h.2 3 _ _ rfl rfl)
   obtain ⟨_,rfl⟩:=leaf_sl (h.2 4 _ _ rfl rfl)
   exact ⟨_,rfl⟩
 ·refine ⟨by show 0<1;omega,[.sl 46],by kernel_rfl,rfl,fun l h=> ?_⟩
  match l,h.1 with
  |[a0],_=>
   obtain ⟨_,rfl⟩:=leaf_sl (h.2 0 _ _ rfl rfl)
   exact ⟨_,rfl⟩
 ·refine ⟨by show 0<1;omega,[.sl 46],by kernel_rfl,rfl,fun l h=> ?_⟩
  match l,h.1 with
  |[a0],_=>
   obtain ⟨_,rfl⟩:=leaf_sl (h.2 0 _ _ rfl rfl)
   exact ⟨_,rfl⟩
 ·refine ⟨by show 0<7;omega,[.int .i64, .int .i64, .int .i64, .int .i64, .int .i64, .sl 3, .sl 3],by kernel_rfl,rfl,fun l h=> ?_⟩
  match l,h.1 with
  |[a0,a1,a2,a3,a4,a5,a6],_=>
   obtain ⟨_,rfl⟩:=leaf_int (h.2 0 _ _ rfl rfl)
   obtain ⟨_,rfl⟩:=leaf_int (h.2 1 _ _ rfl rfl)
   obtain ⟨_,rfl⟩:=leaf_int (h.2 2 _ _ rfl rfl)
   obtain ⟨_,rfl⟩:=leaf_int (h.2 3 _ _ rfl rfl)
   obtain ⟨_,rfl⟩:=leaf_int (h.2 4 _ _ rfl rfl)
   obtain ⟨_,rfl⟩:=leaf_sl (h.2 5 _ _ rfl rfl)
   obtain ⟨_,rfl⟩:=leaf_sl (h.2 6 _ _ rfl rfl)
   exact ⟨_,rfl⟩
 ·refine ⟨by show 0<1;omega,[.sl 30],by kernel_rfl,rfl,fun l h=> ?_⟩
  match l,h.1 with
  |[a0],_=>
   obtain ⟨_,rfl⟩:=leaf_sl (h.2 0 _ _ rfl rfl)
   exact ⟨_,rfl⟩
 ·refine ⟨by show 0<1;omega,[.sl 4],by kernel_rfl,rfl,fun l h=> ?_⟩
  match l,h.1 with
  |[a0],_=>
   obtain ⟨_,rfl⟩:=leaf_sl (h.2 0 _ _ rfl rfl)
   exact ⟨_,rfl⟩
 ·refine ⟨by show 0<3;omega,[.str, .sl 3, .int .i64],by kernel_rfl,rfl,fun l h=> ?_⟩
  match l,h.1 with
  |[a0,a1,a2],_=>
   obtain ⟨_,rfl⟩:=leaf_str (h.2 0 _ _ rfl rfl)
   obtain ⟨_,rfl⟩:=leaf_sl (h.2 1 _ _ rfl rfl)
   obtain ⟨_,rfl⟩:=leaf_int (h.2 2 _ _ rfl rfl)
   exact ⟨_,rfl⟩
 ·refine ⟨by show 0<1;omega,[.sl 2],by kernel_rfl,rfl,fun l h=> ?_⟩
  match l,h.1 with
  |[a0],_=>
   obtain ⟨_,rfl⟩:=leaf_sl (h.2 0 _ _ rfl rfl)
   exact ⟨_,rfl⟩
 ·refine ⟨by show 0<2;omega,[.str, .sl 2],by kernel_rfl,rfl,fun l h=> ?_⟩
  match l,h.1 with
  |[a0,a1],_=>
   obtain ⟨_,rfl⟩:=leaf_str (h.2 0 _ _ rfl rfl)
   obtain ⟨_,rfl⟩:=leaf_sl (h.2 1 _ _ rfl rfl)
   exact ⟨_,rfl⟩
 ·refine ⟨by show 0<2;omega,[.str, .sl 3],by kernel_rfl,rfl,fun l h=> ?_⟩
  match l,h.1 with
  |[a0,a1],_=>
   obtain ⟨_,rfl⟩:=leaf_str (h.2 0 _ _ rfl rfl)
   obtain ⟨_,rfl⟩:=leaf_sl (h.2 1 _ _ rfl rfl)
   exact ⟨_,rfl⟩
 ·refine ⟨by show 0<1;omega,[.sl 71],by kernel_rfl,rfl,fun l h=> ?_⟩
  match l,h.1 with
  |[a0],_=>
   obtain ⟨_,rfl⟩:=leaf_sl (h.2 0 _ _ rfl rfl)
   exact ⟨_,rfl⟩
 ·cases (show false=true from h0)
 ·cases h
end Go.Proofs.Ytggibjbcbicpjaa.Ev
namespace Go.Proofs.Ytggibjbcbicpjaa.Ev
open Go
set_option linter.unusedVariables false
theorem heavy:Heavy tb Try.prog:=by
 intro t i e h hd _
 have h:tiA t=some i:=h
 unfold tiA at h
 split at h<;>first|cases h|skip
 all_goals first|(cases hd;done)|(cases hd;exact of_decide_eq_true (by kernel_rfl))
end Go.Proofs.Ytggibjbcbicpjaa.Ev
namespace Go.Proofs.Ytggibjbcbicpjaa.Ev
open Go
set_option linter.unusedVariables false
theorem fine_row {t:Nat} {xs:List (Ty t)} (h:FineW tb (.sl false t xs)):xs.length≤140737488351232∧ ∀x,x∈xs→ ∀(o:Nat) a,((codA t).enc false x)[o]? =some a→FineW tb a:=by
 cases h with
 |sl _ _ h1 h2=>exact ⟨h1,h2⟩
theorem wide_of {f:Ev.Func} (h: ∀(o:Nat) a,((codA 33).enc false f)[o]? =some a→FineW tb a):wideF f:=fun b hb=>by
 have h4:FineW tb (.sl false 44 f.blocks):=h 4 _ rfl
 have h5:FineW tb (.sl false 46 b.ins):=(fine_row h4).2 b hb 0 _ rfl
 exact (fine_row h5).1
theorem weigh {P:Program} {H:Type} {t:TypeId} {ts:List TypeId} {d:DataW H} {ds:List (DataW H)} {j:Nat} (h:(DataW.weightsEach P ts ds).all (· ≤reachBytes)=true) (h1:ts[j]? =some t) (h2:ds[j]? =some d): ∀n,n∈d.weights P t→n≤reachBytes:=fun n hn=>
 of_decide_eq_true (List.all_eq_true.1 h n (DataW.weights_mem_each h1 h2 n hn))
end Go.Proofs.Ytggibjbcbicpjaa.Ev
namespace Go.Proofs.Ytggibjbcbicpjaa.Ev
open Go
set_option linter.unusedVariables false
def modA (m:Ev.Module):AV Ty:= .agg ((codA 27).enc false m)
theorem wideM_of {m:Ev.Module} (h: ∀(o:Nat) a,((codA 27).enc false m)[o]? =some a→FineW tb a):wideM m:=fun f hf=>by
 have h3:FineW tb (.sl false 33 m.funcs):=h 3 _ rfl
 exact wide_of ((fine_row h3).2 f hf)
theorem open_mod {W:World} {H:Type} {enc:TypeId×Value→H} {spare:Nat→Bool} {held:Bool} {fuel:Nat} {cs:Array Value} {x:DataW H×List MemPlace} (h:DataW.trod enc Try.prog W 0 spare held fuel 27 cs.toList=some x) (hw: ∀n,n∈x.1.weights Try.prog 27→n≤reachBytes):
  ∃m:Ev.Module,Rep tb (fun b _=>b<W.heap.size) W (.agg cs) (modA m)∧wideM m:=by
 obtain ⟨m,h1,h2⟩:=open_tyW tbOk good reads heavy (t:=27) h hw rfl
 have hl:((codA 27).enc false m).length=szOf tb 27:=good.len 27 false m
 refine ⟨m, .agg cs _ ?_ fun i v a e1 e2=>(h2 i v a (by simpa using e1) e2).2,wideM_of fun o a e=> ?_⟩
 ·rw [hl,←h1]
  simp
 ·have ho:o<cs.toList.length:=by rw [h1,←hl];exact get_lt e
  exact (h2 o _ a (List.getElem?_eq_getElem ho) e).1
end Go.Proofs.Ytggibjbcbicpjaa.Ev
