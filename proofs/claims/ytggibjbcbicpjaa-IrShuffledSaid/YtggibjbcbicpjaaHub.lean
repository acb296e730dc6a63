/- The evaluator, what it gives of the functions that are called, and the plain law: part 2 of 6. -/
import Derived.Test.YtggibjbcbicpjaaHua
namespace Go.Proofs.Ytggibjbcbicpjaa.Ev
open Go
set_option linter.unusedVariables false
set_option linter.unusedSimpArgs false
section
variable {Ty:Nat→Type} {E:Tb Ty}
variable {X:Set2} {W0:World} {F F':Set2} {w w':World} {hp hp':Heap Ty} {vals vals':Nat→Value} {sets sets':Nat→Set2} {P:Program} {ρ:Operand→Value}
theorem zeroCells_len {z:Array Value} {n:Nat}:(Builtin.zeroCells z n).size=n*z.size:=by simp [Builtin.zeroCells]
theorem ref_new {F:Set2} {w:World} {vals:Nat→Value} {R:Root Ty} {v:Value} {hp':Heap Ty} {n:Nat} (h1:root hp' n=some R) (h2:vals n=v):VRep E F w hp' vals v (.ref n [] none false):=
 .ref n [] none false v R v ⟨R.t,R.xs⟩ h1 ⟨h2.symm,rfl⟩ ⟨rfl,rfl⟩
theorem app_run {o:Oper} {c:Call} {T1 T2:Nat} {x y:Operand} (ho:o.op= .call c) (hc:c.callee= .builtin .append) (ha:c.args.toList=[x,y]) (ht:c.argTypes.toList=[T1,T2]) {v:Value} {w':World}
  (h:(Builtin.append_ #[T1,T2] o.type #[ρ x,ρ y]).run P w= .ok v w'):(execOp ρ o).run P w= .ok (.value v) w':=by
 have e1:=mem_args ha
 have e2:c.argTypes= #[T1,T2]:=by rw [←Array.toArray_toList (xs:=c.argTypes),ht]
 refine builtin_run (s:=Builtin.append_ c.argTypes o.type (c.args.map ρ)) ho hc (fun cs=>rfl) ?_
 rw [e1,e2]
 simpa using h
theorem app_eff (K:TbOk E P) (G:Good E) (I:Inv E X W0 F w hp vals sets) {m:Bool} {T1 T2 e:Nat} {i1 i2 ei:TI} (hi1:E.ti T1=some i1) (hd1:i1.d= .slice e) (hi2:E.ti T2=some i2) {e2:Nat} (hd2:i2.d= .slice e2) (hei:E.ti e=some ei) (hh:E.has e=true)
  {x y:Operand} {ax ay:AV Ty} (hx:VRep E F w hp vals (ρ x) ax) (hy:VRep E F w hp vals (ρ y) ay) {res:EffR Ty} (h:(appT E m hp e ei ax ay).val=some res) (o:Oper) (c:Call) (ho:o.op= .call c) (hc:c.callee= .builtin .append)
  (ha:c.args.toList=[x,y]) (ht:c.argTypes.toList=[T1,T2]):EffOk E P ρ o X W0 F w hp vals res:=by
 obtain ⟨d1,u1,u2⟩:=K.und _ _ hi1
 rw [hd1] at u2
 have:=DOk.slice u2
 subst this
 obtain ⟨d2,u3,u4⟩:=K.und _ _ hi2
 rw [hd2] at u4
 have:=DOk.slice u4
 subst this
 obtain ⟨j0,hj1,hj2,hj3⟩:=K.info _ _ hei
 obtain ⟨hsz,j,z,hj4,hz1,hz2,_⟩:=K.zero _ _ hei hh
 have:j=j0:=Option.some.inj (hj4.symm.trans hj1)
 subst this
 unfold appT at h
 split at h
 ·
  split at h
  ·rename_i ys hp1 ks hsrc
   rcases ite_val h with ⟨⟨g1,g2⟩,h⟩|⟨_,h⟩
   ·cases h
    have hxv:=hx.v
    obtain ⟨vs,B,A,cc,e1,L,H1,hC,hf,hB⟩:=src_ok (P:=P) G I.H hy hsrc
    have hl:Builtin.lenOf (ρ y)=Sem.pure ys.length:=by rw [e1];rfl
    by_cases hz:ys.length=0
    ·have hys:ys=[]:=List.length_eq_zero_iff.1 hz
     subst hys
     have hvs:vs=[]:=by have:=hC.len;simp at this;exact this
     subst hvs
     have hrun:=append_in (P:=P) (w:=w) (w':=w) (T:=T1) (T2:=T2) (ty:=o.type) (n0:=0) (n1:=0) (cap:=0) (base:=none) (x:=ρ y) (vs:=[]) u1 u3 rfl hj1 hl (Nat.le_refl _) (by rw [hj2,←hsz];exact hf w.drawn) rfl
     refine ⟨_,_,w,F,fun r=>if r=hp1.length then .slice none 0 0 else vals r,fun r=>if r=hp1.length then fun _ _=>False else sets r,app_run ho hc ha ht (by rw [hxv];exact hrun), .inl rfl,?_,ref_new (by rw [root_push,if_pos rfl]) (if_pos rfl),?_,fun j hj=> .inr (if_neg (by rw [L.len];exact Nat.ne_of_lt hj)),Grow.refl _ _ _,fun _ _ _ _ e=>by cases e⟩
     ·refine ⟨⟨fun r R h=> ?_,fun r r' R R' h1 h2 b j s1 s2=> ?_⟩,I.fb,fun r R b j h s=> ?_,I.keep⟩
      ·rw [root_push] at h
       split at h
       ·rename_i e;subst e;cases h;simpa using Own.nil none _ _ (fun _ _ h=>h)
       ·rename_i e;simp only [if_neg e];exact H1.own r R h
      ·rw [root_push] at h1 h2
       by_cases e1:r=hp1.length
       ·simp only [if_pos e1] at s1
       ·by_cases e2:r'=hp1.length
        ·simp only [if_pos e2] at s2
        ·simp only [if_neg e1] at s1 h1;simp only [if_neg e2] at s2 h2;exact H1.dj _ _ _ _ h1 h2 b j s1 s2
      ·rw [root_push] at h
       by_cases e1:r=hp1.length
       ·simp only [if_pos e1] at s
       ·simp only [if_neg e1] at s h;exact I.lim _ _ _ _ (L.sub _ _ h) s
     ·intro u a hu
      refine survive (fun b j h=>⟨h,rfl⟩) (fun r R' p h1 h2=> ?_) hu
      have hlt:=root_lt h1
      have hne:r≠hp1.length:=by rw [L.len];omega
      rcases L.out _ _ h1 with h3|⟨_,h3⟩
      ·exact survive_root (hp':=hp1++[some ⟨e,m,[]⟩]) (vals':=fun r=>if r=hp1.length then .slice none 0 0 else vals r) G I.H h1 (by rw [root_push,if_neg hne];exact h3) (if_neg hne) (fun b j s=>rfl)
      ·exact absurd (hit_mem h2 h3) (by omega)
    ·obtain ⟨cp,d,k1,k2⟩:=append_grow (P:=P) (w:=w) (T:=T1) (T2:=T2) (ty:=o.type) (n0:=0) (n1:=ys.length) (cap:=0) (base:=none) (x:=ρ y) (vs0:=[]) (vs:=vs) u1 u3 rfl hj1 hz1 hl (by omega) (by omega) (by rw [hj3,Nat.zero_add];exact g2)
      (fun d=>rfl) (fun d=>by rw [hj2,←hsz];exact hf d)
     have I2:=I.drew G d
     have hO:=alloc_own (w:= { w with drawn:=d }) (T:=e) (c:=cp) (cells:= #[]++vs.toArray++Builtin.zeroCells z.cells (cp-(0+ys.length))) G (hC.stable (w:=w) (w':= { w with drawn:=d }) G (fun b j h=>⟨h,rfl⟩) (fun i o b j h=>⟨rfl,rfl,fun h=>h⟩))
      (by simp [zeroCells_len,hC.len,hz2,←hsz];rw [←Nat.add_mul];congr 1;omega) (by omega) (fun k v e=>by
       have hk:=get_lt e
       simp only [Array.empty_append]
       rw [Array.getElem?_append_left (by simpa using hk)]
       simpa using e) I2.fb
     have L2:Less F F sets hp hp1 ks:=L
     have H2:HRel E F { w with drawn:=d } hp1 vals sets:=⟨fun r R h=>(H1.own r R h).stable (w:=w) (w':= { w with drawn:=d }) G (fun b j h=>⟨h,rfl⟩) (fun b j h=>⟨rfl,rfl⟩) (fun b j _ h=>h),H1.dj⟩
     obtain ⟨I',hs⟩:=push_ok (R:=⟨e,m,ys⟩) G I2 L2 H2 hO (fun b j h=>by
      rcases h with h|⟨i,o,h⟩
      ·exact .inl h.1
      ·exact .inr (hB _ _ _ _ h))
     refine ⟨_,_,_,F,_,_,app_run ho hc ha ht (by rw [hxv];exact k2), .inl rfl,I',?_,fun u a hu=>hs u a (hu.drew d),fun j hj=> .inr (if_neg (by rw [L.len];exact Nat.ne_of_lt hj)),Grow.refl _ _ _,fun _ _ _ _ e=>by cases e⟩
     have:=ref_new (E:=E) (F:=F) (w:=({ w with drawn:=d }:World).alloc (.cells (#[]++vs.toArray++Builtin.zeroCells z.cells (cp-(0+ys.length))) e)) (vals:=fun r=>if r=hp1.length then .slice (some ⟨w.heap.size,0,none⟩) ys.length cp else vals r) (R:=⟨e,m,ys⟩) (hp':=hp1++[some ⟨e,m,ys⟩]) (n:=hp1.length) (by rw [root_push,if_pos rfl]) (if_pos rfl)
     rw [Nat.zero_add]
     rw [Nat.zero_add] at this
     exact this
   ·cases h
  ·cases h
 ·
  rename_i r vw full
  split at h
  ·rename_i R hR
   split at h
   ·rename_i ys hp1 ks hbz hsrc
    split at h
    ·rename_i R1 hR1
     rcases ite_val h with ⟨⟨g1,g2⟩,h⟩|⟨_,h⟩
     ·cases h
      have hbz:=Nat.eq_of_beq_eq_true hbz
      obtain ⟨R2,u,row,k1,k2,k3⟩:=hx.ref'
      rw [hR] at k1
      cases k1
      obtain ⟨rfl,rfl⟩:=k2
      obtain ⟨vs,B,A,cc,e1,L,H1,hC,hf,hB⟩:=src_ok (P:=P) G I.H hy hsrc
      have hRR:R1=R:=Option.some.inj ((L.sub _ _ hR1).symm.trans hR)
      subst hRR
      have hOr:=H1.own r R1 hR1
      obtain ⟨S',hV,hsub⟩:=hOr.view G k3
      have hl:Builtin.lenOf (ρ y)=Sem.pure ys.length:=by rw [e1];rfl
      have hvl:(view R1.xs vw).length=vlen R1.xs vw:=by
       cases vw with
       |none=>rfl
       |some ok=>obtain ⟨o',k⟩:=ok;have:=k3.1;simp only [view,vlen,List.length_take,List.length_drop] at this ⊢; omega
      have hlt:=root_lt hR1
      have hBS: ∀i o b j,B i o b j→ ¬sets r b j:=by
       intro i o b j hb hs
       obtain ⟨r',R',q1,q2,q3⟩:=hB _ _ _ _ hb
       have:=I.H.dj _ _ _ _ q1 hR b j q3 hs
       subst this
       rw [hR1] at q2;cases q2
      obtain ⟨vs0,B0,A0,c0,e0,hC0,hf0,hB0⟩:=hV.cont (P:=P) G
      have surv: ∀(w2:World) (v2:Value) (R':Root Ty),(∀b j,F b j→w2.cell? ⟨b,j,none⟩=w.cell? ⟨b,j,none⟩)→(∀i Ri b j,i≠r→root hp i=some Ri→sets i b j→w2.cell? ⟨b,j,none⟩=w.cell? ⟨b,j,none⟩)→
        ∀u a,VRep E F w hp vals u a→VRep E F w2 (hp1.set r (some R')) (fun i=>if i=r then v2 else vals i) u (killA ((r,0) :: ks) a):=by
       intro w2 v2 R' q1 q2 u a hu
       refine survive (fun b j h=>⟨h,q1 _ _ h⟩) (fun i Ri p h1 hh=> ?_) hu
       by_cases e:i=r
       ·subst e
        exact absurd (hit_mem hh (n:=0) (by simp)) (by omega)
       ·rcases L.out _ _ h1 with h3|⟨_,h3⟩
        ·exact survive_root (hp':=hp1.set r (some R')) (vals':=fun i=>if i=r then v2 else vals i) G I.H h1 (by rw [root_set,if_neg (fun h=>e h.symm)];exact h3) (if_neg e) (fun b j s=>q2 i Ri b j e h1 s)
        ·exact absurd (hit_mem hh (List.mem_cons_of_mem _ h3)) (by omega)
      by_cases hcap:vlen R1.xs vw+ys.length≤c0
      ·
       have place: ∃w' S3,(match A0 with|some a=>(storeCells (a.add (vlen R1.xs vw*j.size)) vs 0).run P w= .ok () w'|none=>w'=w)∧(∃b base,Wrote w w' b base vs∧ ∀j,base≤j→j<base+vs.length→sets r b j)∧
         Own E F w' R1.m (.slice A0 (vlen R1.xs vw+ys.length) c0) R1.t (view R1.xs vw++ys) S3∧ ∀b j,S3 b j→sets r b j∨ ∃i o,B i o b j:=by
        rcases hV.inv with ⟨⟨A',e'⟩,e'',hS'⟩|⟨b,off,c',g,B',e',O⟩
        ·rw [e0] at e'
         injection e' with q1 q2 q3
         have hy0:ys.length=0:=by omega
         have hys:ys=[]:=List.length_eq_zero_iff.1 hy0
         subst hys
         have hvs:vs=[]:=by have:=hC.len;simp at this;exact this
         subst hvs
         have hn0:vlen R1.xs vw=0:=by rw [←hvl,e''];rfl
         refine ⟨w,S',?_,⟨0,0, .nil _ _ _,fun j h1 h2=>by simp at h2⟩,?_,fun b j h=>absurd h (hS' b j)⟩
         ·cases A0 with
          |none=>rfl
          |some a=>rfl
         ·rw [e'',hn0,q3]
          exact .nil _ _ _ hS'
        ·rw [e0] at e'
         injection e' with q1 q2 q3
         subst q3
         have hroom: ∀k,k<vs.length→vlen R1.xs vw*szOf E R1.t+k<c0*szOf E R1.t:=by
          intro k hk
          rw [hC.len] at hk
          have:(vlen R1.xs vw+ys.length)*szOf E R1.t≤c0*szOf E R1.t:=Nat.mul_le_mul_right _ hcap
          rw [Nat.add_mul] at this
          omega
         obtain ⟨w',hrun,hW⟩:=storeCells_ok (P:=P) (b:=b) (base:=off+vlen R1.xs vw*szOf E R1.t) vs 0 w (fun kk hk=>by
          have:=O.cap (vlen R1.xs vw*szOf E R1.t+kk) (hroom kk hk)
          rw [show off+vlen R1.xs vw*szOf E R1.t+(0+kk)=off+(vlen R1.xs vw*szOf E R1.t+kk) by omega]
          exact ⟨this.1,this.2.1⟩) hC.one
         rw [Nat.add_zero] at hW
         obtain ⟨S3,hO3,hS3⟩:=O.extend G hC (by rw [hvl];exact hcap) (by rw [hvl];exact hW) (fun i o b' j hb hs=>hBS _ _ _ _ hb (hsub _ _ hs))
         rw [hvl] at hO3
         refine ⟨w',S3,?_,⟨b,_,hW,fun j h1 h2=>hsub _ _ ?_⟩,by rw [q1];exact hO3,fun b' j h=>(hS3 b' j h).imp (hsub _ _) id⟩
         ·rw [q1]
          simp only [addr_add]
          rw [hj2,←hbz]
          exact hrun
         ·have h3:=hroom (j-off-vlen R1.xs vw*szOf E R1.t) (by omega)
          have:=O.mem (j:=j-off) (by omega)
          rwa [show off+(j-off)=j by omega] at this
       obtain ⟨w',S3,p1,⟨b,base,hW,hin⟩,hO3,hS3⟩:=place
       have hrun:=append_in (P:=P) (w:=w) (w':=w') (T:=T1) (T2:=T2) (ty:=o.type) (n0:=vlen R1.xs vw) (n1:=ys.length) (cap:=c0) (base:=A0) (x:=ρ y) (vs:=vs) u1 u3 rfl hj1 hl hcap (by rw [hj2,←hbz];exact hf w.drawn) p1
       have I':=set_ok G I L H1 (R':=⟨R1.t,R1.m,view R1.xs vw++ys⟩) hR1 hW hin hO3 (fun b j h=>(hS3 b j h).imp id (fun ⟨i,o,h⟩=> .inl (hB _ _ _ _ h)))
       refine ⟨_,_,w',F,_,_,app_run ho hc ha ht (by rw [e0,hvl];exact hrun), .inl rfl,I',ref_new (by rw [root_set,if_pos rfl,if_pos hlt]) (if_pos rfl),surv _ _ _ (fun b' j h=> ?_) (fun i Ri b' j hne hi hs=> ?_),fun j hj=>if e:j=r then .inl (by rw [e];exact List.mem_cons_self) else .inr (if_neg e),Grow.refl _ _ _,fun _ _ _ _ e=>by cases e⟩
       ·exact hW.agreeF (Q:=F) (fun j h1 h2 h=>((hOr.free _ _ (hin j h1 h2)).2.2 h)) _ _ h
       ·exact hW.out _ _ (fun ⟨q1,q2,q3⟩=>hne (I.H.dj _ _ _ _ hi hR b' j hs (q1▸hin j q2 q3)))
      ·
       obtain ⟨cp,d,k1,k2⟩:=append_grow (P:=P) (w:=w) (T:=T1) (T2:=T2) (ty:=o.type) (n0:=vlen R1.xs vw) (n1:=ys.length) (cap:=c0) (base:=A0) (x:=ρ y) (vs0:=vs0) (vs:=vs) u1 u3 rfl hj1 hz1 hl hcap g1 (by rw [hj3];exact g2)
        (fun d=>by rw [hj2,←hbz,←hvl,←e0];exact hf0 d) (fun d=>by rw [hj2,←hbz];exact hf d)
       have I2:=I.drew G d
       have hCC:=Cont.append G hC0 hC (fun i o i' o' b j h1 h2=>hBS _ _ _ _ h2 (hsub _ _ (hB0 _ _ _ _ h1)))
       have hO:=alloc_own (w:= { w with drawn:=d }) (T:=e) (c:=cp) (cells:=vs0.toArray++vs.toArray++Builtin.zeroCells z.cells (cp-(vlen R1.xs vw+ys.length))) G (hCC.stable (w:=w) (w':= { w with drawn:=d }) G (fun b j h=>⟨h,rfl⟩) (fun i o b j h=>⟨rfl,rfl,fun h=>h⟩))
        (by simp only [Array.size_append,List.size_toArray,zeroCells_len,hC0.len,hC.len,hz2,←hbz,hvl];rw [←Nat.add_mul,←Nat.add_mul];congr 1;omega) (by simp only [List.length_append,hvl];omega) (fun k v e=>by
         have hk:=get_lt e
         rw [Array.getElem?_append_left (by simpa using hk)]
         have:(vs0.toArray++vs.toArray)=(vs0++vs).toArray:=by simp
         rw [this]
         simpa using e) I2.fb
       have H2:HRel E F { w with drawn:=d } hp1 vals sets:=⟨fun r R h=>(H1.own r R h).stable (w:=w) (w':= { w with drawn:=d }) G (fun b j h=>⟨h,rfl⟩) (fun b j h=>⟨rfl,rfl⟩) (fun b j _ h=>h),H1.dj⟩
       have I':=setNew_ok (R':=⟨R1.t,R1.m,view R1.xs vw++ys⟩) G I2 L H2 hR1 hO (fun b j h=>by
        rcases h with h|⟨i,o,h⟩
        ·exact .inl h.1
        ·split at h
         ·exact .inr (.inl (hsub _ _ (hB0 _ _ _ _ h)))
         ·exact .inr (.inr (hB _ _ _ _ h)))
       rw [List.length_append,hvl] at I'
       refine ⟨_,_,_,F,_,_,app_run ho hc ha ht (by rw [e0,hvl];exact k2), .inl rfl,I',ref_new (by rw [root_set,if_pos rfl,if_pos hlt]) (if_pos rfl),surv _ _ _ (fun b' j h=> ?_) (fun i Ri b' j hne hi hs=> ?_),fun j hj=>if e:j=r then .inl (by rw [e];exact List.mem_cons_self) else .inr (if_neg e),Grow.refl _ _ _,fun _ _ _ _ e=>by cases e⟩
       ·exact cell_alloc_old (w:= { w with drawn:=d }) (I.fb _ _ h)
       ·exact cell_alloc_old (w:= { w with drawn:=d }) (I.lt hi hs)
     ·cases h
    ·cases h
   ·cases h
  ·cases h
 ·cases h
end
end Go.Proofs.Ytggibjbcbicpjaa.Ev
namespace Go.Proofs.Ytggibjbcbicpjaa.Ev
open Go
set_option linter.unusedVariables false
set_option linter.unusedSimpArgs false
section
variable {Ty:Nat→Type} (E:Tb Ty)
def partsA (z:Nat) (fr:List (Nat×AV Ty)):Nat→List (Nat×Operand)→Option (List (AV Ty))
 |_,[]=>some []
 |k,(i,x) :: l=>match Nat.beq i k,cellsOfA (opA fr x) with
  |true,some ds=>match Nat.beq ds.length z,partsA z fr (k+1) l with
   |true,some r=>some (ds++r)
   |_,_=>none
  |_,_=>none
def decN (m:Bool) (t:Nat):Nat→List (AV Ty)→Option (List (Ty t))
 |0,_=>some []
 |n+1,cs=>match (E.cod t).dec m (cs.take (szOf E t)) with
  |some x=>match decN m t n (cs.drop (szOf E t)) with
   |some xs=>some (x :: xs)
   |none=>none
  |none=>none
def litT (m:Bool) (hp:Heap Ty) (fr:List (Nat×AV Ty)) (e n:Nat) (ei:TI) (parts:List (Nat×Operand)):T (EffR Ty):=
 match Nat.beq n parts.length,E.has e,Nat.ble (n*ei.sz) 16777216 with
 |true,true,true=>match partsA ei.sz fr 0 parts with
  |some ds=>match toCells m hp ((List.replicate n ((E.cod e).enc m (E.cod e).zero)).flatten) ds with
   |some (cs,hp1,ks)=>match decN E m e n cs with
    |some xs=> .ret (.ref hp1.length [] none false,hp1++[some ⟨e,m,xs⟩],ks)
    |none=> .fail
   |none=> .fail
  |none=> .fail
 |_,_,_=> .fail
def makeT (m:Bool) (hp:Heap Ty) (e:Nat) (ei:TI) (l c:AV Ty):T (EffR Ty):=match E.has e,intA l,intA c with
 |true,some a,some b=> .ite (0≤a∧a≤b∧b≤1099511627776∧b*ei.bytes≤1099511627776) inferInstance
   (.ret (.ref hp.length [] none false,hp++[some ⟨e,m,List.replicate a.toNat (E.cod e).zero⟩],[])) .fail
 |_,_,_=> .fail
variable {E}
variable {X:Set2} {W0:World} {F F':Set2} {w w':World} {hp hp':Heap Ty} {vals vals':Nat→Value} {sets sets':Nat→Set2} {P:Program} {ρ:Operand→Value}
theorem parts_ok (G:Good E) (H:HRel E F w hp vals sets) {fr:List (Nat×AV Ty)} (hρ: ∀x,VRep E F w hp vals (ρ x) (opA fr x)) {z:Nat}: ∀(l:List (Nat×Operand)) (k:Nat) (ds:List (AV Ty)) (cells:Array Value),partsA z fr k l=some ds→(k+l.length)*z≤cells.size→
  ∃cells':Array Value,Instr.fill (fun i=>some (i*z,z)) cells (l.map fun (i,x)=>(i,ρ x))=some cells'∧ ∃vs:List Value,cells'.toList=cells.toList.take (k*z)++vs++cells.toList.drop ((k+l.length)*z)∧vs.length=l.length*z∧CRep E F w hp vals vs ds
 |[],k,ds,cells,h,hz=>by
  cases h
  exact ⟨cells,rfl,[],by simp,by simp,rfl,fun i v a e=>by simp at e⟩
 |(i,x) :: l,k,ds,cells,h,hz=>by
  unfold partsA at h
  split at h
  ·rename_i d1 e1 e2
   split at h
   ·rename_i r e3 e4
    cases h
    have hi:=Nat.eq_of_beq_eq_true e1
    have hd:=Nat.eq_of_beq_eq_true e3
    subst hi
    have hC:=cellsOf_ok G H (hρ x) e2
    have hsz:(ρ x).cells.size=z:=by have:=hC.1;simp at this;omega
    simp only [List.length_cons] at hz⊢
    have hz1:i*z+z+l.length*z≤cells.size:=by
     rw [show i+(l.length+1)=i+1+l.length by omega,Nat.add_mul,Nat.succ_mul] at hz
     exact hz
    have hf:=foldl_cells (ρ x).cells.toList 0 (i*z) cells (by simp [hsz];omega)
    rw [Nat.add_zero] at hf
    have hfl:(((ρ x).cells.zipIdx.foldl (fun cs (c,j)=>cs.setIfInBounds (i*z+j) c) cells)).toList=cells.toList.take (i*z)++(ρ x).cells.toList++cells.toList.drop (i*z+z):=by
     rw [←Array.foldl_toList,Array.toList_zipIdx,hf]
     simp [hsz]
    obtain ⟨cells',k1,vs,k2,k3,k4⟩:=parts_ok G H hρ l (i+1) r (((ρ x).cells.zipIdx.foldl (fun cs (c,j)=>cs.setIfInBounds (i*z+j) c) cells)) e4 (by
     have:(((ρ x).cells.zipIdx.foldl (fun cs (c,j)=>cs.setIfInBounds (i*z+j) c) cells)).size=cells.size:=by
      rw [←Array.length_toList,hfl];simp [hsz];omega
     rw [this,Nat.add_mul,Nat.succ_mul]
     omega)
    refine ⟨cells',?_,(ρ x).cells.toList++vs,?_,?_,?_,?_⟩
    ·simp only [List.map_cons,Instr.fill]
     rw [if_neg (by simp [hsz];omega)]
     exact k1
    ·rw [k2,hfl]
     have t1:(cells.toList.take (i*z)++(ρ x).cells.toList).length=(i+1)*z:=by simp [hsz,Nat.succ_mul];omega
     have q1:(cells.toList.take (i*z)++(ρ x).cells.toList++cells.toList.drop (i*z+z)).take ((i+1)*z)=cells.toList.take (i*z)++(ρ x).cells.toList:=List.take_left' t1
     have q2:(cells.toList.take (i*z)++(ρ x).cells.toList++cells.toList.drop (i*z+z)).drop ((i+1+l.length)*z)=cells.toList.drop ((i+(l.length+1))*z):=by
      rw [Nat.add_mul (i+1),←t1,List.drop_length_add_append,List.drop_drop]
      congr 1
      rw [show i+(l.length+1)=i+1+l.length by omega,Nat.add_mul,Nat.succ_mul]
     rw [q1,q2]
     simp only [List.append_assoc]
    ·simp [hsz,k3,Nat.succ_mul];omega
    ·simp [hC.1,k4.1]
    ·intro q v a q1 q2
     by_cases hq:q<d1.length
     ·rw [List.getElem?_append_left (by rw [hC.1];exact hq)] at q1
      rw [List.getElem?_append_left hq] at q2
      exact hC.2 q v a q1 q2
     ·rw [List.getElem?_append_right (by rw [hC.1];omega),hC.1] at q1
      rw [List.getElem?_append_right (by omega)] at q2
      exact k4.2 _ v a q1 q2
   ·cases h
  ·cases h
theorem decN_ok (G:Good E) {m:Bool} {t:Nat}: ∀(n:Nat) (cs:List (AV Ty)) (xs:List (Ty t)),decN E m t n cs=some xs→xs.length=n∧ ∀(i:Nat) x (o:Nat) a,xs[i]? =some x→((E.cod t).enc m x)[o]? =some a→cs[i*szOf E t+o]? =some a
 |0,cs,xs,h=>by cases h;exact ⟨rfl,fun i x o a e=>by simp at e⟩
 |n+1,cs,xs,h=>by
  unfold decN at h
  split at h
  ·rename_i x0 e1
   split at h
   ·rename_i xs0 e2
    cases h
    have henc:=G.dec _ _ _ _ e1
    obtain ⟨h1,h2⟩:=decN_ok G n _ _ e2
    refine ⟨by simp [h1],fun i x o a q1 q2=> ?_⟩
    have ho:o<szOf E t:=by have:=get_lt q2;rw [G.len] at this;exact this
    cases i with
    |zero=>
     cases q1
     rw [henc,List.getElem?_take,if_pos ho] at q2
     simpa using q2
    |succ i=>
     have:=h2 i x o a (by simpa using q1) q2
     rw [List.getElem?_drop] at this
     rw [Nat.succ_mul,show i*szOf E t+szOf E t+o=szOf E t+(i*szOf E t+o) by omega]
     exact this
   ·cases h
  ·cases h
theorem zeros_size {α:Type} (n:Nat) (f:Nat→α):((Array.range n).map f).size=n:=by simp
theorem lit_eff (K:TbOk E P) (G:Good E) (I:Inv E X W0 F w hp vals sets) {m:Bool} {fr:List (Nat×AV Ty)} (hρ: ∀x,VRep E F w hp vals (ρ x) (opA fr x)) {t e n:Nat} {i ei:TI} (hi:E.ti t=some i) (hd:i.d= .slice e) (hei:E.ti e=some ei)
  {parts:Array (Nat×Operand)} {res:EffR Ty} (h:(litT E m hp fr e n ei parts.toList).val=some res) (o:Oper) (ho:o.op= .buildSlice t n parts):EffOk E P ρ o X W0 F w hp vals res:=by
 unfold litT at h
 split at h
 ·rename_i b1 hh b3
  have hn:=Nat.eq_of_beq_eq_true b1
  have hle:=Nat.le_of_ble_eq_true b3
  split at h
  ·rename_i ds hds
   split at h
   ·rename_i cs hp1 ks hcs
    split at h
    ·rename_i xs hxs
     cases h
     obtain ⟨d1,u1,u2⟩:=K.und _ _ hi
     rw [hd] at u2
     have:=DOk.slice u2
     subst this
     obtain ⟨j0,hj1,hj2,hj3⟩:=K.info _ _ hei
     obtain ⟨hsz,j,z,hj4,hz1,hz2,_⟩:=K.zero _ _ hei hh
     have:j=j0:=Option.some.inj (hj4.symm.trans hj1)
     subst this
     obtain ⟨cells',f1,vs,f2,f3,f4⟩:=parts_ok G I.H hρ parts.toList 0 ds ((Array.range (n*ei.sz)).map fun k=>(if n*ei.sz=0 then (#[]:Array Value) else z.cells)[k % (if n*ei.sz=0 then (#[]:Array Value) else z.cells).size]!) hds (by rw [zeros_size,Nat.zero_add,hn];exact Nat.le_refl _)
     have hcl:cells'.toList=vs:=by
      rw [f2]
      have:((Array.range (n*ei.sz)).map fun k=>(if n*ei.sz=0 then (#[]:Array Value) else z.cells)[k % (if n*ei.sz=0 then (#[]:Array Value) else z.cells).size]!).toList.drop ((0+parts.toList.length)*ei.sz)=[]:=by
       apply List.drop_eq_nil_of_le
       simp [hn]
      rw [this]
      simp
     obtain ⟨F1,Bn,H1,L,f,l,bn⟩:=toCells_ok G ds _ F hp hp1 ks cs vs I.H (fun _ _ h=>h) (fun _ _ h=>h) f4 hcs
     obtain ⟨x1,x2⟩:=decN_ok G n cs xs hxs
     have F1b: ∀b j,F1 b j→b<w.heap.size:=by
      intro b j h
      rcases L.fro b j h with h|⟨r,R',h1,_,h2⟩
      ·exact I.fb _ _ h
      ·exact I.lt h1 h2
     have hvl:vs.length=n*szOf E e:=by rw [f3,hsz,hn]
     have hC:Cont E F1 w m e xs vs (fun i o=>if i<n∧o<szOf E e then Bn (i*szOf E e+o) else fun _ _=>False):=by
      refine ⟨by rw [hvl,x1],f.one,fun i x o a v e1 e2 e3 e4=>f.rep _ _ _ e3 (x2 i x o a e1 e2) e4,fun i x o t' ys v e1 e2 e3=> ?_,fun i o i' o' b j q1 q2=> ?_,fun i o b j q=> ?_⟩
      ·have ho:o<szOf E e:=by have:=get_lt e2;rw [G.len] at this;exact this
       rw [if_pos ⟨by rw [←x1];exact get_lt e1,ho⟩]
       exact f.own _ _ _ _ e3 (x2 i x o _ e1 e2)
      ·split at q1
       ·split at q2
        ·rename_i c1 c2
         have:=f.dj _ _ _ _ q1 q2
         have a1:(i*szOf E e+o) / szOf E e=i:=by rw [Nat.mul_comm,Nat.mul_add_div (by omega),Nat.div_eq_of_lt c1.2,Nat.add_zero]
         have a2:(i'*szOf E e+o') / szOf E e=i':=by rw [Nat.mul_comm,Nat.mul_add_div (by omega),Nat.div_eq_of_lt c2.2,Nat.add_zero]
         have:i=i':=by rw [←a1,←a2,this]
         subst this
         exact ⟨rfl,by omega⟩
        ·exact q2.elim
       ·exact q1.elim
      ·split at q
       ·rename_i c1
        obtain ⟨t',ys,h⟩:=f.rg _ _ _ q
        have hx:xs[i]? =some (xs[i]'(by omega)):=List.getElem?_eq_getElem (by omega)
        have ho:o<((E.cod e).enc m (xs[i]'(by omega))).length:=by rw [G.len];exact c1.2
        have ha:=List.getElem?_eq_getElem ho
        have:=x2 i _ o _ hx ha
        rw [h] at this
        refine ⟨_,t',ys,hx,?_⟩
        rw [ha,←Option.some.inj this]
       ·exact q.elim
     have hO:=alloc_own (T:=e) (c:=n) (cells:=cells') G hC (by rw [←Array.length_toList,hcl,hvl]) (by omega) (fun k v e=>by
      rw [←Array.getElem?_toList,hcl];exact e) F1b
     obtain ⟨I',hs⟩:=push_ok G I L H1 (R:=⟨e,m,xs⟩) hO (fun b j h=>by
      rcases h with h|⟨i,o,h⟩
      ·exact .inl h.1
      ·split at h
       ·exact .inr (bn _ _ _ h).2
       ·exact h.elim)
     rw [x1] at I' hs
     refine ⟨_,_,_,F1,_,_,?_, .inl rfl,I',ref_new (by rw [root_push,if_pos rfl]) (if_pos rfl),hs,fun j hj=> .inr (if_neg (by rw [L.len];exact Nat.ne_of_lt hj)),L.grow I,fun _ _ _ _ e=>by cases e⟩
     refine okB (s:=Instr.buildSlice t n (parts.map fun (i,x)=>(i,ρ x))) (by unfold execOp;rw [ho]) ?_
     unfold Instr.buildSlice
     simp only [Bind.bind]
     rw [run_underlying u1]
     simp only
     rw [run_sizeOf hj1,hj2]
     rw [if_neg (by omega)]
     have hfill:Instr.fill (fun i=>some (i*ei.sz,ei.sz)) ((Array.range (n*ei.sz)).map fun k=>(if n*ei.sz=0 then (#[]:Array Value) else z.cells)[k % (if n*ei.sz=0 then (#[]:Array Value) else z.cells).size]!) (parts.map fun (i,x)=>(i,ρ x)).toList=some cells':=by
      rw [Array.toList_map];exact f1
     by_cases h0:n*ei.sz=0
     ·simp only [if_pos h0] at hfill
      rw [if_pos h0]
      simp only [Pure.pure,Sem.bind]
      rw [hfill]
      rfl
     ·simp only [if_neg h0] at hfill
      rw [if_neg h0,run_zeroValue hj1 hz1]
      simp only [Pure.pure,Sem.bind]
      rw [hfill]
      rfl
    ·cases h
   ·cases h
  ·cases h
 ·cases h
theorem make_eff (K:TbOk E P) (G:Good E) (I:Inv E X W0 F w hp vals sets) {m:Bool} {t e:Nat} {i ei:TI} (hi:E.ti t=some i) (hd:i.d= .slice e) (hei:E.ti e=some ei) {x y:Operand} {ax ay:AV Ty} (hx:VRep E F w hp vals (ρ x) ax) (hy:VRep E F w hp vals (ρ y) ay)
  {res:EffR Ty} (h:(makeT E m hp e ei ax ay).val=some res) (o:Oper) (ho:o.op= .makeSlice t x y):EffOk E P ρ o X W0 F w hp vals res:=by
 unfold makeT at h
 split at h
 ·rename_i a b hh ha hb
  rcases ite_val h with ⟨⟨g1,g2,g3,g4⟩,h⟩|⟨_,h⟩
  ·cases h
   obtain ⟨d1,u1,u2⟩:=K.und _ _ hi
   rw [hd] at u2
   have:=DOk.slice u2
   subst this
   obtain ⟨j0,hj1,hj2,hj3⟩:=K.info _ _ hei
   obtain ⟨hsz,j,z,hj4,hz1,hz2,_⟩:=K.zero _ _ hei hh
   have:j=j0:=Option.some.inj (hj4.symm.trans hj1)
   subst this
   obtain ⟨k1,e1⟩:=asInt_of hx ha
   obtain ⟨k2,e2⟩:=asInt_of hy hb
   obtain ⟨j',z',hj5,hz5,hz6,hC1⟩:=cont_zero K G hei hh m F w
   have:j'=j:=Option.some.inj (hj5.symm.trans hj1)
   subst this
   have:z'=z:=Option.some.inj (hz5.symm.trans hz1)
   subst this
   have hC:Cont E F w m e (List.replicate a.toNat (E.cod e).zero) (rowVals (fun _ o=>z'.cells[o]!) a.toNat (szOf E e)) (fun _ _ _ _=>False):=by
    have key: ∀(i:Nat) x (o:Nat) a' v,(List.replicate a.toNat (E.cod e).zero)[i]? =some x→((E.cod e).enc m x)[o]? =some a'→(rowVals (fun _ o=>z'.cells[o]!) a.toNat (szOf E e))[i*szOf E e+o]? =some v→x=(E.cod e).zero∧z'.cells.toList[0*szOf E e+o]? =some v:=by
     intro i x o a' v q1 q2 q3
     have hi':=get_lt q1
     rw [List.length_replicate] at hi'
     have ho:o<szOf E e:=by have:=get_lt q2;rw [G.len] at this;exact this
     rw [List.getElem?_replicate,if_pos hi'] at q1
     rw [rowVals_get hi' ho] at q3
     refine ⟨(Option.some.inj q1).symm,?_⟩
     rw [←Option.some.inj q3]
     simp only [Nat.zero_mul,Nat.zero_add,Array.getElem?_toList]
     have:o<z'.cells.size:=by rw [hz6];exact ho
     rw [Array.getElem?_eq_getElem this]
     simp [this]
    refine ⟨by rw [rowVals_len];simp,fun v hv=> ?_,fun i x o a' v q1 q2 q3 q4=> ?_,fun i x o t' ys v q1 q2 q3=> ?_,fun _ _ _ _ _ _ h=>h.elim,fun _ _ _ _ h=>h.elim⟩
    ·unfold rowVals at hv
     obtain ⟨k,hk,rfl⟩:=List.mem_map.1 hv
     obtain ⟨_,q2,_⟩:=div_lt (List.mem_range.1 hk)
     have hlt:k % szOf E e<z'.cells.size:=by rw [hz6];exact q2
     refine hC1.one _ ?_
     simp only [hlt,getElem!_pos]
     exact Array.mem_toList_iff.2 (Array.getElem_mem hlt)
    ·obtain ⟨rfl,q5⟩:=key _ _ _ _ _ q1 q2 q3
     exact hC1.rep 0 _ o a' v rfl q2 q5 q4
    ·obtain ⟨rfl,q5⟩:=key _ _ _ _ _ q1 q2 q3
     exact hC1.own 0 _ o t' ys v rfl q2 q5
   have hO:=alloc_own (T:=e) (c:=b.toNat) (cells:=(Array.range (b.toNat*szOf E e)).map fun k=>(if b.toNat*szOf E e=0 then (#[]:Array Value) else z'.cells)[k % (if b.toNat*szOf E e=0 then (#[]:Array Value) else z'.cells).size]!) G hC (zeros_size _ _) (by simp;omega) (fun k v e'=>by
    have hk:=get_lt e'
    rw [rowVals_len] at hk
    have hle:a.toNat*szOf E e≤b.toNat*szOf E e:=Nat.mul_le_mul_right _ (by omega)
    unfold rowVals at e'
    rw [List.getElem?_map,List.getElem?_range hk] at e'
    rw [←Option.some.inj e']
    have hk2:k<b.toNat*szOf E e:=by omega
    rw [Array.getElem?_map,Array.getElem?_range,if_pos hk2]
    simp only [Option.map_some]
    rw [if_neg (by omega),hz6]) I.fb
   obtain ⟨I',hs⟩:=push_ok G I (Less.refl F sets hp) I.H (R:=⟨e,m,List.replicate a.toNat (E.cod e).zero⟩) hO (fun b j h=>by
    rcases h with h|⟨_,_,h⟩
    ·exact .inl h.1
    ·exact h.elim)
   rw [List.length_replicate] at I' hs
   refine ⟨_,_,_,F,_,_,?_, .inl rfl,I',ref_new (by rw [root_push,if_pos rfl]) (if_pos rfl),hs,fun j hj=> .inr (if_neg (Nat.ne_of_lt hj)),Grow.refl _ _ _,fun _ _ _ _ e=>by cases e⟩
   refine okB (s:=Instr.makeSlice t (ρ x) (ρ y)) (by unfold execOp;rw [ho]) ?_
   have w1:IntKind.i64.wrap a=a:=by unfold IntKind.wrap;simp [IntKind.bits,IntKind.signed];omega
   have w2:IntKind.i64.wrap b=b:=by unfold IntKind.wrap;simp [IntKind.bits,IntKind.signed];omega
   have c1: ¬(b<0):=by omega
   have c2: ¬((j'.bytes:Int)*b>2 ^ 48):=by
    rw [hj3]
    rw [Int.mul_comm]
    omega
   unfold Instr.makeSlice
   simp only [Bind.bind]
   rw [run_underlying u1]
   simp only [e1,e2,asInt,asIntOf,Bind.bind,Pure.pure,Sem.bind]
   rw [run_typeInfo hj1]
   simp only [w1,w2]
   have c4: ¬(a<0):=by omega
   have c5: ¬(a>b):=by omega
   rw [decide_eq_false c1,decide_eq_false c2,decide_eq_false c4,decide_eq_false c5]
   simp only [Bool.or_self,Bool.false_eq_true,if_false]
   have hask:(askRoom (b.toNat*j'.bytes)).run P w= .ok () w:=by
    unfold askRoom
    split<;>rfl
   rw [run_then hask,run_sizeOf hj1,hj2,←hsz]
   by_cases h0:b.toNat*szOf E e=0
   ·simp only [if_pos h0]
    rfl
   ·simp only [if_neg h0]
    rw [run_zeroValue hj1 hz1]
    rfl
  ·cases h
 ·cases h
end
end Go.Proofs.Ytggibjbcbicpjaa.Ev
namespace Go.Proofs.Ytggibjbcbicpjaa.Ev
open Go
set_option linter.unusedVariables false
set_option linter.unusedSimpArgs false
def isKeyV (kd:Option IntKind):Value→Bool
 | .int j _=>match kd with
  |some k=>decide (j=k)
  |none=>false
 | .string _=>kd.isNone
 |_=>false
def MapAt (w:World) (v:Value) (kd:Option IntKind) (q:IntKind) (kv:List (Value×Int)):Prop:=
 ∃b es clk,v= .map (some b)∧w.heap[b]? =some (.map es clk)∧es.toList.map (fun e=>(e.key,e.val))=kv.map (fun p=>(p.1,Value.int q p.2))∧(∀p,p∈kv→isKeyV kd p.1=true)∧(kv.map (·.1)).Nodup
section
variable {Ty:Nat→Type} (E:Tb Ty)
def lend0 (hp:Heap Ty):AV Ty→Option (AV Ty)
 | .v x=>some (.v x)
 | .sl false t xs=>some (.sl false t xs)
 | .rp t xs i o=>some (.rp t xs i o)
 | .ref r p vw _=>match root hp r with
  |some R=>match nav E R.m R.t R.xs p with
   |some row=>some (.sl false row.t (view row.xs vw))
   |none=>none
  |none=>none
 | .ptr r p i o=>match root hp r with
  |some R=>match nav E R.m R.t R.xs p with
   |some row=>some (.rp row.t row.xs i o)
   |none=>none
  |none=>none
 |_=>none
def lendL (hp:Heap Ty):List (AV Ty)→Option (List (AV Ty))
 |[]=>some []
 |a :: l=>match lend0 E hp a,lendL hp l with
  |some b,some r=>some (b :: r)
  |_,_=>none
def lend (hp:Heap Ty):AV Ty→Option (AV Ty)
 | .agg cs=>match lendL E hp cs with
  |some r=>some (.agg r)
  |none=>none
 |a=>lend0 E hp a
def ref0:AV Ty→Bool
 | .ref _ _ _ _=>true
 | .ptr _ _ _ _=>true
 |_=>false
def isRef:AV Ty→Bool
 | .agg cs=>cs.any ref0
 |a=>ref0 a
variable {E}
variable {X:Set2} {W0:World} {F F':Set2} {w w':World} {hp hp':Heap Ty} {vals vals':Nat→Value} {sets sets':Nat→Set2} {P:Program} {ρ:Operand→Value}
variable (E) in
inductive ResOk (F:Set2) (w:World):Value→AV Ty→Set2→Prop
 |v (x:Value) (S:Set2):(∀b j,¬S b j)→ResOk F w x (.v x) S
 |fr (v:Value) (t:Nat) (xs:List (Ty t)) (S:Set2):Rep E F w v (.sl false t xs)→(∀b j,¬S b j)→ResOk F w v (.sl false t xs) S
 |own (v:Value) (t:Nat) (xs:List (Ty t)) (S:Set2):Own E F w true v t xs S→ResOk F w v (.sl true t xs) S
 |box (b off c:Nat) (m:Bool) (t:Nat) (x:Ty t) (S:Set2):Own E F w m (.slice (some ⟨b,off,none⟩) 1 c) t [x] S→ResOk F w (.pointer (some ⟨b,off,none⟩)) (.box m t x) S
 |agg (vs:Array Value) (cs:List (AV Ty)) (B:Nat→Set2) (S:Set2):vs.size=cs.length→(∀(i:Nat) v a,vs[i]? =some v→cs[i]? =some a→ResOk F w v a (B i))→(∀i j b o,B i b o→B j b o→i=j)→(∀i b o,B i b o→i<cs.length∧S b o)→ResOk F w (.agg vs) (.agg cs) S
 |tup (vs:Array Value) (cs:List (AV Ty)) (B:Nat→Set2) (S:Set2):vs.size=cs.length→(∀(i:Nat) v a,vs[i]? =some v→cs[i]? =some a→ResOk F w v a (B i))→(∀i j b o,B i b o→B j b o→i=j)→(∀i b o,B i b o→i<cs.length∧S b o)→ResOk F w (.tuple vs) (.tup cs) S
mutual
def takeA (hp:Heap Ty):AV Ty→Option (AV Ty×Heap Ty)
 | .v x=>some (.v x,hp)
 | .sl false t xs=>some (.sl false t xs,hp)
 | .sl true t xs=>some (.ref hp.length [] none false,hp++[some ⟨t,true,xs⟩])
 | .box m t x=>some (.ptr hp.length [] 0 0,hp++[some ⟨t,m,[x]⟩])
 | .agg cs=>match takeL hp cs with
  |some (r,hp')=>some (.agg r,hp')
  |none=>none
 | .tup cs=>match takeL hp cs with
  |some (r,hp')=>some (.tup r,hp')
  |none=>none
 |_=>none
def takeL (hp:Heap Ty):List (AV Ty)→Option (List (AV Ty)×Heap Ty)
 |[]=>some ([],hp)
 |a :: l=>match takeA hp a with
  |some (b,hp1)=>match takeL hp1 l with
   |some (r,hp2)=>some (b :: r,hp2)
   |none=>none
  |none=>none
end
structure More (hp hp':Heap Ty) (vals vals':Nat→Value) (sets sets':Nat→Set2) (S:Set2):Prop where
 len:hp.length≤hp'.length
 old: ∀r,r<hp.length→root hp' r=root hp r∧vals' r=vals r∧sets' r=sets r
 new: ∀r R b j,hp.length≤r→root hp' r=some R→sets' r b j→S b j
theorem More.refl (hp:Heap Ty) (vals:Nat→Value) (sets:Nat→Set2) (S:Set2):More hp hp vals vals sets sets S:=
 ⟨Nat.le_refl _,fun _ _=>⟨rfl,rfl,rfl⟩,fun r R b j h1 h2=>absurd (root_lt h2) (by omega)⟩
theorem More.keep {S:Set2} (M:More hp hp' vals vals' sets sets' S) {r:Nat} {R:Root Ty} (h:root hp r=some R):root hp' r=some R∧vals' r=vals r:=by
 obtain ⟨h1,h2,_⟩:=M.old r (root_lt h)
 exact ⟨h1.trans h,h2⟩
theorem VRep.more {S:Set2} (M:More hp hp' vals vals' sets sets' S) {v:Value} {a:AV Ty} (h:VRep E F w hp vals v a):VRep E F w hp' vals' v a:=by
 induction h with
 |rep v a h=>exact .rep _ _ h
 |ref r p vw full v R u row h1 h2 h3=>obtain ⟨k1,k2⟩:=M.keep h1;exact .ref r p vw full v R u row k1 (by rw [k2];exact h2) h3
 |ptr r p i o R b off c row h1 h2 h3=>obtain ⟨k1,k2⟩:=M.keep h1;exact .ptr r p i o R b off c row k1 (by rw [k2];exact h2) h3
 |agg vs cs h1 h2 ih=>exact .agg vs cs h1 ih
 |tup vs cs h1 h2 ih=>exact .tup vs cs h1 ih
 |dead v=>exact .dead v
 |mp v kd q kv=>exact .mp v kd q kv
 |vb b j vs cs h1 h0 h2 ih=>exact .vb b j vs cs h1 h0 ih
 |ext v r p t xs=>exact .ext v r p t xs
theorem More.trans {hp'':Heap Ty} {vals'':Nat→Value} {sets'':Nat→Set2} {S S' T:Set2} (M:More hp hp' vals vals' sets sets' S) (N:More hp' hp'' vals' vals'' sets' sets'' S') (h1: ∀b j,S b j→T b j) (h2: ∀b j,S' b j→T b j):
  More hp hp'' vals vals'' sets sets'' T where
 len:=Nat.le_trans M.len N.len
 old:=fun r h=>by
  obtain ⟨a1,a2,a3⟩:=M.old r h
  obtain ⟨b1,b2,b3⟩:=N.old r (Nat.lt_of_lt_of_le h M.len)
  exact ⟨b1.trans a1,b2.trans a2,b3.trans a3⟩
 new:=fun r R b j h h' hs=>by
  by_cases e:r<hp'.length
  ·obtain ⟨b1,b2,b3⟩:=N.old r e
   rw [b1] at h'
   rw [b3] at hs
   exact h1 _ _ (M.new r R b j h h' hs)
  ·exact h2 _ _ (N.new r R b j (by omega) h' hs)
theorem push_same (I:Inv E X W0 F w hp vals sets) {R:Root Ty} {v:Value} {S:Set2} (hO:Own E F w R.m v R.t R.xs S) (hd: ∀r R' b j,root hp r=some R'→sets r b j→ ¬S b j) (hl: ∀b j,S b j→X b j∨W0.heap.size≤b):
  Inv E X W0 F w (hp++[some R]) (fun r=>if r=hp.length then v else vals r) (fun r=>if r=hp.length then S else sets r)∧More hp (hp++[some R]) vals (fun r=>if r=hp.length then v else vals r) sets (fun r=>if r=hp.length then S else sets r) S:=by
 refine ⟨⟨⟨fun r R' h=> ?_,fun r r' R1 R2 h1 h2 b j s1 s2=> ?_⟩,I.fb,fun r R' b j h s=> ?_,I.keep⟩,⟨by simp,fun r h=> ?_,fun r R' b j h h' s=> ?_⟩⟩
 ·rw [root_push] at h
  split at h
  ·rename_i e;subst e;cases h;simpa using hO
  ·rename_i e;simp only [if_neg e];exact I.H.own r R' h
 ·rw [root_push] at h1 h2
  by_cases e1:r=hp.length<;>by_cases e2:r'=hp.length
  ·rw [e1,e2]
  ·simp only [if_pos e1] at s1;simp only [if_neg e2] at s2 h2;exact absurd s1 (hd _ _ _ _ h2 s2)
  ·simp only [if_neg e1] at s1 h1;simp only [if_pos e2] at s2;exact absurd s2 (hd _ _ _ _ h1 s1)
  ·simp only [if_neg e1] at s1 h1;simp only [if_neg e2] at s2 h2;exact I.H.dj _ _ _ _ h1 h2 b j s1 s2
 ·rw [root_push] at h
  by_cases e:r=hp.length
  ·simp only [if_pos e] at s;exact hl _ _ s
  ·simp only [if_neg e] at s h;exact I.lim _ _ _ _ h s
 ·have hne:r≠hp.length:=by omega
  refine ⟨by rw [root_push,if_neg hne],by simp [hne],by simp [hne]⟩
 ·rw [root_push] at h'
  by_cases e:r=hp.length
  ·simp only [if_pos e] at s;exact s
  ·rw [if_neg e] at h';exact absurd (root_lt h') (by omega)
theorem take_list (vs:List Value) (cs:List (AV Ty)) (hlen:vs.length=cs.length): ∀(k:Nat) {hp hp':Heap Ty} {vals:Nat→Value} {sets:Nat→Set2} (rs:List (AV Ty)) (B:Nat→Set2) (S:Set2),
  (∀(i:Nat) v a,vs[i]? =some v→cs[i]? =some a→ ∀ {hp hp':Heap Ty} {vals:Nat→Value} {sets:Nat→Set2} {r:AV Ty},takeA hp a=some (r,hp')→Inv E X W0 F w hp vals sets→(∀q R' b j,root hp q=some R'→sets q b j→ ¬B i b j)→(∀b j,B i b j→X b j∨W0.heap.size≤b)→
   ∃vals' sets',Inv E X W0 F w hp' vals' sets'∧More hp hp' vals vals' sets sets' (B i)∧VRep E F w hp' vals' v r)→
  takeL hp (cs.drop k)=some (rs,hp')→Inv E X W0 F w hp vals sets→(∀i j b o,B i b o→B j b o→i=j)→(∀i b o,B i b o→S b o)→(∀i,k≤i→ ∀q R' b j,root hp q=some R'→sets q b j→ ¬B i b j)→(∀i b j,B i b j→X b j∨W0.heap.size≤b)→
  ∃vals' sets',Inv E X W0 F w hp' vals' sets'∧More hp hp' vals vals' sets sets' S∧rs.length=cs.length-k∧ ∀(i:Nat) v r,vs[k+i]? =some v→rs[i]? =some r→VRep E F w hp' vals' v r:=by
 intro k
 generalize hn:cs.length-k=n
 induction n generalizing k with
 |zero=>
  intro hp hp' vals sets rs B S hstep h I h1 h2 h3 h4
  rw [List.drop_eq_nil_of_le (by omega)] at h
  cases h
  exact ⟨vals,sets,I, .refl _ _ _ _,rfl,fun i v r e1 e2=>by simp at e2⟩
 |succ n ih=>
  intro hp hp' vals sets rs B S hstep h I h1 h2 h3 h4
  have hk:k<cs.length:=by omega
  rw [List.drop_eq_getElem_cons hk] at h
  unfold takeL at h
  split at h
  ·rename_i b hp1 e1
   split at h
   ·rename_i r hp2 e2
    cases h
    have hc:cs[k]? =some cs[k]:=List.getElem?_eq_getElem hk
    have hv:vs[k]? =some (vs[k]'(by omega)):=List.getElem?_eq_getElem (by omega)
    obtain ⟨vals1,sets1,I1,M1,V1⟩:=hstep k _ _ hv hc e1 I (h3 k (Nat.le_refl _)) (h4 k)
    obtain ⟨vals2,sets2,I2,M2,l2,V2⟩:=ih (k+1) (by omega) r B S hstep e2 I1 h1 h2 (fun i hi q R' b j hq hs hb=>by
     by_cases e:q<hp.length
     ·obtain ⟨a1,_,a3⟩:=M1.old q e
      rw [a1] at hq
      rw [a3] at hs
      exact h3 i (by omega) q R' b j hq hs hb
     ·have:=M1.new q R' b j (by omega) hq hs
      have:=h1 _ _ _ _ this hb
      omega) h4
    refine ⟨vals2,sets2,I2,M1.trans M2 (h2 k) (fun _ _ h=>h),by simp [l2],fun i v r' q1 q2=> ?_⟩
    cases i with
    |zero=>
     cases q2
     rw [Nat.add_zero,hv] at q1
     cases q1
     exact V1.more M2
    |succ i=>exact V2 i v r' (by rw [show k+1+i=k+(i+1) by omega];exact q1) (by simpa using q2)
   ·cases h
  ·cases h
theorem take_ok {v:Value} {a:AV Ty} {S:Set2} (h:ResOk E F w v a S): ∀ {hp hp':Heap Ty} {vals:Nat→Value} {sets:Nat→Set2} {r:AV Ty},takeA hp a=some (r,hp')→Inv E X W0 F w hp vals sets→(∀q R' b j,root hp q=some R'→sets q b j→ ¬S b j)→
  (∀b j,S b j→X b j∨W0.heap.size≤b)→ ∃vals' sets',Inv E X W0 F w hp' vals' sets'∧More hp hp' vals vals' sets sets' S∧VRep E F w hp' vals' v r:=by
 induction h with
 |v x S hS=>intro hp hp' vals sets r h I h1 h2;cases h;exact ⟨vals,sets,I, .refl _ _ _ _, .rep _ _ (.v x)⟩
 |fr v t xs S h0 hS=>intro hp hp' vals sets r h I h1 h2;cases h;exact ⟨vals,sets,I, .refl _ _ _ _, .rep _ _ h0⟩
 |own v t xs S hO=>
  intro hp hp' vals sets r h I h1 h2
  cases h
  obtain ⟨I',M⟩:=push_same I (R:=⟨t,true,xs⟩) hO h1 h2
  exact ⟨_,_,I',M,ref_new (by rw [root_push,if_pos rfl]) (if_pos rfl)⟩
 |box b off c m t x S hO=>
  intro hp hp' vals sets r h I h1 h2
  cases h
  obtain ⟨I',M⟩:=push_same I (R:=⟨t,m,[x]⟩) hO h1 h2
  refine ⟨_,_,I',M,?_⟩
  have:=VRep.ptr (E:=E) (F:=F) (w:=w) (hp:=hp++[some ⟨t,m,[x]⟩]) (vals:=fun r=>if r=hp.length then .slice (some ⟨b,off,none⟩) 1 c else vals r) hp.length [] 0 0 ⟨t,m,[x]⟩ b off c ⟨t,[x]⟩ (by rw [root_push,if_pos rfl]) ⟨(if_pos rfl).symm,rfl⟩ (by simp)
  simpa using this
 |agg vs cs B S h1 h2 h3 h4 ih=>
  intro hp hp' vals sets r h I k1 k2
  unfold takeA at h
  split at h
  ·rename_i rs hp1 e
   cases h
   obtain ⟨vals',sets',I',M,l,V⟩:=take_list vs.toList cs (by simpa using h1) 0 rs B S (fun i v a e1 e2=>ih i v a (by simpa using e1) e2) (by simpa using e) I h3 (fun i b o h=>(h4 i b o h).2) (fun i _ q R' b j hq hs hb=>k1 q R' b j hq hs (h4 _ _ _ hb).2) (fun i b j h=>k2 _ _ (h4 _ _ _ h).2)
   exact ⟨vals',sets',I',M, .agg vs rs (by rw [h1,l];omega) (fun i v r e1 e2=>V i v r (by simpa using e1) e2)⟩
  ·cases h
 |tup vs cs B S h1 h2 h3 h4 ih=>
  intro hp hp' vals sets r h I k1 k2
  unfold takeA at h
  split at h
  ·rename_i rs hp1 e
   cases h
   obtain ⟨vals',sets',I',M,l,V⟩:=take_list vs.toList cs (by simpa using h1) 0 rs B S (fun i v a e1 e2=>ih i v a (by simpa using e1) e2) (by simpa using e) I h3 (fun i b o h=>(h4 i b o h).2) (fun i _ q R' b j hq hs hb=>k1 q R' b j hq hs (h4 _ _ _ hb).2) (fun i b j h=>k2 _ _ (h4 _ _ _ h).2)
   exact ⟨vals',sets',I',M, .tup vs rs (by rw [h1,l];omega) (fun i v r e1 e2=>V i v r (by simpa using e1) e2)⟩
  ·cases h
variable (E) in
structure ArgsOk (W:World) (F X:Set2) (vs:List Value) (as:List (AV Ty)) (sets:Nat→Set2) (caps:Nat→Nat):Prop where
 len:vs.length=as.length
 fb: ∀b j,F b j→b<W.heap.size∧ ¬X b j
 rep: ∀(i:Nat) v a,vs[i]? =some v→as[i]? =some a→(∀m t x,a≠ .box m t x)→Rep E F W v a
 box: ∀(i:Nat) v m t x,vs[i]? =some v→as[i]? =some (.box m t x)→ ∃b off,v= .pointer (some ⟨b,off,none⟩)∧Own E F W m (.slice (some ⟨b,off,none⟩) 1 (caps i)) t [x] (sets i)
 dj: ∀i i' b j,sets i b j→sets i' b j→i=i'
 inX: ∀i b j,sets i b j→X b j
 X: ∀b j,X b j→ ∃i m t x,as[i]? =some (.box m t x)∧sets i b j
variable (E) in
def CallOld (P:Program) (f:FuncId) (as:List (AV Ty)) (res:AV Ty) (outs:List (AV Ty)):Prop:=
 ∀(W:World) (F X:Set2) (vs:List Value) (sets:Nat→Set2) (caps:Nat→Nat),ArgsOk E W F X vs as sets caps→
  Calls P f vs.toArray W fun e W'=> ∃(v:Value) (S F':Set2) (sets':Nat→Set2),e= .returned v∧Keep X W W'∧(∀b j,F b j→F' b j)∧(∀b j,F' b j→F b j∨W.heap.size≤b∨X b j)∧(∀b j,F' b j→b<W'.heap.size)∧ResOk E F' W' v res S∧(∀b j,S b j→W.heap.size≤b∨X b j)∧
   outs.length=as.length∧
   (∀(i:Nat) m t x b off,as[i]? =some (.box m t x)→vs[i]? =some (.pointer (some ⟨b,off,none⟩))→ ∃x',outs[i]? =some (.box m t x')∧Own E F' W' m (.slice (some ⟨b,off,none⟩) 1 (caps i)) t [x'] (sets' i))∧
   (∀i b j,sets' i b j→(W.heap.size≤b∨X b j)∧ ¬S b j)∧(∀i i' b j,sets' i b j→sets' i' b j→i=i')
def gift0:AV Ty→Bool
 | .sl true _ _=>true
 |_=>false
def giftA:AV Ty→Bool
 | .agg cs=>cs.any gift0
 |a=>gift0 a
def giftL (as:List (AV Ty)):Bool:=as.any giftA
variable (E) in
def GiftOk (P:Program) (f:FuncId) (g res:AV Ty):Prop:=
 ∀(W:World) (F X:Set2) (v:Value),(∀b j,F b j→b<W.heap.size∧ ¬X b j)→ResOk E F W v g X→
  Calls P f #[v] W fun e W'=> ∃(v':Value) (S F':Set2),e= .returned v'∧Keep X W W'∧(∀b j,F b j→F' b j)∧(∀b j,F' b j→F b j∨W.heap.size≤b∨X b j)∧(∀b j,F' b j→b<W'.heap.size)∧ResOk E F' W' v' res S∧(∀b j,S b j→W.heap.size≤b∨X b j)
def MapOk (P:Program) (f:FuncId) (as:List (AV Ty)) (res:AV Ty) (outs:List (AV Ty)):Prop:=
 ∀kd q kv xs,as= .mp kd q kv :: xs.map .v→ ∃x kv' os,res= .v x∧outs= .mp kd q kv' :: os∧ ∀(W:World) (mv:Value),MapAt W mv kd q kv→
  Calls P f (mv :: xs).toArray W fun e W'=>e= .returned x∧MapAt W' mv kd q kv'∧Keep (fun b _=>mv= .map (some b)) W W'
def headM:List (AV Ty)→Bool
 | .mp _ _ _ :: _=>true
 |_=>false
theorem MapOk.no {f:FuncId} {as:List (AV Ty)} {res:AV Ty} {outs:List (AV Ty)} (h:headM as=false):MapOk P f as res outs:=fun kd q kv xs e=>by
 subst e
 cases h
variable (E) in
def CallOk (P:Program) (f:FuncId) (as:List (AV Ty)) (res:AV Ty) (outs:List (AV Ty)):Prop:=
 (giftL as=false→CallOld E P f as res outs)∧(∀g,as=[g]→giftA g=true→GiftOk E P f g res)∧MapOk P f as res outs
theorem Rep.noGift {v:Value} {a:AV Ty} (h:Rep E F w v a):giftA a=false:=by
 have h0: ∀ {v:Value} {a:AV Ty},Rep E F w v a→gift0 a=false:=fun h=>by cases h<;>rfl
 cases h with
 |agg vs cs h1 h2=>
  show cs.any gift0=false
  rw [List.any_eq_false]
  intro x hx
  obtain ⟨i,hi,e⟩:=List.getElem_of_mem hx
  have hv:i<vs.size:=by omega
  have:=h0 (h2 i _ x (Array.getElem?_eq_getElem hv) (by rw [List.getElem?_eq_getElem hi,e]))
  simp [this]
 |_=>rfl
theorem ArgsOk.noGift {W:World} {vs:List Value} {as:List (AV Ty)} {caps:Nat→Nat} (h:ArgsOk E W F X vs as sets caps):giftL as=false:=by
 unfold giftL
 rw [List.any_eq_false]
 intro a ha
 obtain ⟨i,hi,e⟩:=List.getElem_of_mem ha
 have e2:as[i]? =some a:=by rw [List.getElem?_eq_getElem hi,e]
 have hv:i<vs.length:=by rw [h.len];exact hi
 by_cases hb: ∃m t x,a= .box m t x
 ·obtain ⟨m,t,x,rfl⟩:=hb
  simp [giftA,gift0]
 ·have:=(h.rep i _ a (List.getElem?_eq_getElem hv) e2 fun m t x e=>hb ⟨m,t,x,e⟩).noGift
  simp [this]
end
end Go.Proofs.Ytggibjbcbicpjaa.Ev
namespace Go.Proofs.Ytggibjbcbicpjaa.Ev
open Go
set_option linter.unusedVariables false
set_option linter.unusedSimpArgs false
section
variable {Ty:Nat→Type} (E:Tb Ty)
def focusL:Heap Ty→List Bool→List (AV Ty)→Option (List (AV Ty)×Heap Ty×List (Option Nat))
 |hp,_,[]=>some ([],hp,[])
 |hp,mu,a :: l=>match mu.headD false with
  |true=>match a with
   | .ptr r [] 0 0=>match root hp r with
    |some ⟨t,m,[x]⟩=>match focusL (hp.set r none) mu.tail l with
     |some (as,hp',rs)=>some (.box m t x :: as,hp',some r :: rs)
     |none=>none
    |_=>none
   |_=>none
  |false=>match focusL hp mu.tail l with
   |some (as,hp',rs)=>some (a :: as,hp',none :: rs)
   |none=>none
def lendAll (hp:Heap Ty):List (Option Nat)→List (AV Ty)→Option (List (AV Ty))
 |none :: rs,a :: l=>match lend E hp a,lendAll hp rs l with
  |some b,some r=>some (b :: r)
  |_,_=>none
 |some _ :: rs,a :: l=>match lendAll hp rs l with
  |some r=>some (a :: r)
  |none=>none
 |[],[]=>some []
 |_,_=>none
def anyLent:List (Option Nat)→List (AV Ty)→Bool
 |none :: rs,a :: l=>isRef a || anyLent rs l
 |some _ :: rs,_ :: l=>anyLent rs l
 |_,_=>false
def fr0:AV Ty→Bool
 | .sl false _ _=>true
 | .sl true t _=> !E.sole t
 | .box false _ _=>true
 | .box true t _=> !E.sole t
 | .agg _=>true
 | .tup _=>true
 |_=>false
def fr1:AV Ty→Bool
 | .agg cs=>cs.any (fr0 E)
 |a=>fr0 E a
def fr2:AV Ty→Bool
 | .tup cs=>cs.any (fr1 E)
 |a=>fr1 E a
def deepBox:AV Ty→Bool
 | .box false _ _=>false
 | .box true t _=>E.sole t
 |_=>true
def restore:Heap Ty→List (Option Nat)→List (AV Ty)→Heap Ty
 |hp,some r :: rs, .box m t x :: l=>restore (hp.set r (some ⟨t,m,[x]⟩)) rs l
 |hp,_ :: rs,_ :: l=>restore hp rs l
 |hp,_,_=>hp
def killsOf:List (Option Nat)→List (Nat×Nat)
 |[]=>[]
 |some r :: l=>(r,1) :: killsOf l
 |none :: l=>killsOf l
def callT (hp:Heap Ty) (mu:List Bool) (S:List (AV Ty)→T (AV Ty×List (AV Ty))) (args:List (AV Ty)):T (EffR Ty):=
 match focusL hp mu args with
 |some (as,hp1,rs)=>match lendAll E hp1 rs as with
  |some bs=>(S bs).bind fun p=>match anyLent rs as && (fr2 E p.1 || !(bs.all (deepBox E))) with
   |false=>match takeA (restore hp1 rs p.2) p.1 with
    |some (a,hp2)=> .ret (a,hp2,killsOf rs)
    |none=> .fail
   |true=> .fail
  |none=> .fail
 |none=> .fail
variable {E}
variable {X:Set2} {W0:World} {F F':Set2} {w w':World} {hp hp':Heap Ty} {vals vals':Nat→Value} {sets sets':Nat→Set2} {P:Program} {ρ:Operand→Value}
structure Foc (hp hp1:Heap Ty) (args as:List (AV Ty)) (rs:List (Option Nat)):Prop where
 l1:as.length=args.length
 l2:rs.length=args.length
 len:hp1.length=hp.length
 no: ∀(i:Nat),rs[i]? =some none→as[i]? =args[i]?
 yes: ∀(i r:Nat),rs[i]? =some (some r)→ ∃m t x,as[i]? =some (.box m t x)∧args[i]? =some (.ptr r [] 0 0)∧root hp r=some ⟨t,m,[x]⟩∧root hp1 r=none
 sub: ∀r R,root hp1 r=some R→root hp r=some R
 out: ∀r R,root hp r=some R→root hp1 r=some R∨ ∃i:Nat,rs[i]? =some (some r)
 inj: ∀(i i' r:Nat),rs[i]? =some (some r)→rs[i']? =some (some r)→i=i'
theorem focus_ok: ∀(args:List (AV Ty)) (mu:List Bool) (hp hp1:Heap Ty) (as:List (AV Ty)) (rs:List (Option Nat)),focusL hp mu args=some (as,hp1,rs)→Foc hp hp1 args as rs
 |[],mu,hp,hp1,as,rs,h=>by
  unfold focusL at h
  cases h
  exact ⟨rfl,rfl,rfl,fun i h=>rfl,fun i r h=>by simp at h,fun _ _ h=>h,fun _ _ h=> .inl h,fun i i' r h=>by simp at h⟩
 |a :: l,mu,hp,hp1,as,rs,h=>by
  unfold focusL at h
  split at h
  ·split at h
   ·rename_i r
    split at h
    ·rename_i t m x hr
     split at h
     ·rename_i as' hp' rs' e
      cases h
      have ih:=focus_ok l _ _ _ _ _ e
      have hlt:=root_lt hr
      have hroot: ∀r',root (hp.set r none) r'=if r=r' then none else root hp r':=by
       intro r'
       rw [root_set]
       split
       ·simp
       ·rfl
      have hnone:root hp1 r=none:=by
       cases e':root hp1 r with
       |none=>rfl
       |some R=>have:=ih.sub _ _ e';rw [hroot,if_pos rfl] at this;cases this
      refine ⟨by simp [ih.l1],by simp [ih.l2],by rw [ih.len,List.length_set],fun i h=> ?_,fun i r' h=> ?_,fun r' R h=> ?_,fun r' R h=> ?_,fun i i' r' h h'=> ?_⟩
      ·cases i with
       |zero=>simp at h
       |succ i=>exact ih.no i (by simpa using h)
      ·cases i with
       |zero=>
        simp at h
        subst h
        exact ⟨m,t,x,rfl,rfl,hr,hnone⟩
       |succ i=>
        obtain ⟨m',t',x',k1,k2,k3,k4⟩:=ih.yes i r' (by simpa using h)
        rw [hroot] at k3
        split at k3
        ·cases k3
        ·exact ⟨m',t',x',by simpa using k1,by simpa using k2,k3,k4⟩
      ·have:=ih.sub _ _ h
       rw [hroot] at this
       split at this
       ·cases this
       ·exact this
      ·by_cases e1:r=r'
       ·subst e1;exact .inr ⟨0,rfl⟩
       ·rcases ih.out r' R (by rw [hroot,if_neg e1];exact h) with h|⟨i,h⟩
        ·exact .inl h
        ·exact .inr ⟨i+1,by simpa using h⟩
      ·have gone: ∀(i:Nat),rs'[i]? =some (some r)→False:=by
        intro i h
        obtain ⟨_,_,_,_,_,k3,_⟩:=ih.yes i r h
        rw [hroot,if_pos rfl] at k3
        cases k3
       cases i with
       |zero=>
        simp at h
        subst h
        cases i' with
        |zero=>rfl
        |succ i'=>exact (gone i' (by simpa using h')).elim
       |succ i=>
        cases i' with
        |zero=>
         simp at h'
         subst h'
         exact (gone i (by simpa using h)).elim
        |succ i'=>rw [ih.inj i i' r' (by simpa using h) (by simpa using h')]
     ·cases h
    ·cases h
   ·cases h
  ·split at h
   ·rename_i as' hp' rs' e
    cases h
    have ih:=focus_ok l _ _ _ _ _ e
    refine ⟨by simp [ih.l1],by simp [ih.l2],ih.len,fun i h=> ?_,fun i r' h=> ?_,ih.sub,fun r' R h=> ?_,fun i i' r' h h'=> ?_⟩
    ·cases i with
     |zero=>rfl
     |succ i=>exact ih.no i (by simpa using h)
    ·cases i with
     |zero=>simp at h
     |succ i=>
      obtain ⟨m',t',x',k1,k2,k3,k4⟩:=ih.yes i r' (by simpa using h)
      exact ⟨m',t',x',by simpa using k1,by simpa using k2,k3,k4⟩
    ·rcases ih.out r' R h with h|⟨i,h⟩
     ·exact .inl h
     ·exact .inr ⟨i+1,by simpa using h⟩
    ·cases i with
     |zero=>simp at h
     |succ i=>
      cases i' with
      |zero=>simp at h'
      |succ i'=>rw [ih.inj i i' r' (by simpa using h) (by simpa using h')]
   ·cases h
theorem Rep.toRp {v:Value} {t:Nat} {xs:List (Ty t)} (h:Rep E F w v (.sl false t xs)) {b off n c i o:Nat} (hv:v= .slice (some ⟨b,off,none⟩) n c) (hi:i<xs.length):Rep E F w (.pointer (some ⟨b,off+(i*szOf E t+o),none⟩)) (.rp t xs i o):=by
 cases h with
 |nil A c t=>simp at hi
 |sl b' off' c' _ _ g h1 h2 h3=>
  injection hv with e1 _ _
  injection e1 with e1
  injection e1 with e1 e2
  subst e1 e2
  exact .rp _ _ _ _ i o g hi h2 h3
theorem lend0_ok (G:Good E) (H:HRel E F w hp vals sets) {hp1:Heap Ty} (hsub: ∀r R,root hp1 r=some R→root hp r=some R) {F':Set2} (hF: ∀b j,F b j→F' b j) {v:Value} {a b:AV Ty} (hv:VRep E F w hp vals v a) (h:lend0 E hp1 a=some b)
  (hl:ref0 a=true→ ∀r R b j,root hp1 r=some R→sets r b j→F' b j):Rep E F' w v b:=by
 unfold lend0 at h
 split at h
 ·cases h;have:=hv.v;subst this;exact .v _
 ·cases h;exact hv.sl.stable fun b j h=>⟨hF b j h,rfl⟩
 ·cases h;exact hv.rp.stable fun b j h=>⟨hF b j h,rfl⟩
 ·rename_i r p vw f
  split at h
  ·rename_i R hR
   split at h
   ·rename_i row hn
    cases h
    obtain ⟨R2,u,row2,k1,k2,k3⟩:=hv.ref'
    rw [hsub _ _ hR] at k1
    cases k1
    rw [k2.nav] at hn
    cases hn
    obtain ⟨S,hO,hS,_⟩:=focus G p (H.own r R (hsub _ _ hR)) k2
    obtain ⟨S',h1,h2⟩:=hO.view G k3
    exact h1.rep G hF (fun b j h=>hl rfl r R b j hR (hS _ _ (h2 _ _ h)))
   ·cases h
  ·cases h
 ·rename_i r p i o
  split at h
  ·rename_i R hR
   split at h
   ·rename_i row hn
    cases h
    obtain ⟨R2,b,off,c,row2,k1,k2,k3,rfl⟩:=hv.ptr'
    rw [hsub _ _ hR] at k1
    cases k1
    rw [k2.nav] at hn
    cases hn
    obtain ⟨S,hO,hS,_⟩:=focus G p (H.own r R (hsub _ _ hR)) k2
    have:=hO.rep G hF (fun b j h=>hl rfl r R b j hR (hS _ _ h))
    exact this.toRp rfl k3
   ·cases h
  ·cases h
 ·cases h
theorem lendL_ok (G:Good E) (H:HRel E F w hp vals sets) {hp1:Heap Ty} (hsub: ∀r R,root hp1 r=some R→root hp r=some R) {F':Set2} (hF: ∀b j,F b j→F' b j): ∀ {l r:List (AV Ty)},lendL E hp1 l=some r→r.length=l.length∧
  (l.any ref0=true→ ∀r R b j,root hp1 r=some R→sets r b j→F' b j)→ ∀(i:Nat) v a b,l[i]? =some a→r[i]? =some b→VRep E F w hp vals v a→Rep E F' w v b
 |[],r,h,_=>fun i v a b e=>by simp at e
 |c :: l,r,h,hl=>by
  unfold lendL at h
  split at h
  ·rename_i b' r' e1 e2
   cases h
   intro i v a b q1 q2 hv
   cases i with
   |zero=>
    cases q1;cases q2
    exact lend0_ok G H hsub hF hv e1 (fun hi=>hl.2 (by simp only [List.any_cons,hi,Bool.true_or]))
   |succ i=>
    exact lendL_ok G H hsub hF e2 ⟨by have:=hl.1;simpa using this,fun h=>hl.2 (by simp only [List.any_cons,h,Bool.or_true])⟩ i v a b (by simpa using q1) (by simpa using q2) hv
  ·cases h
theorem lend_ok (G:Good E) (H:HRel E F w hp vals sets) {hp1:Heap Ty} (hsub: ∀r R,root hp1 r=some R→root hp r=some R) {F':Set2} (hF: ∀b j,F b j→F' b j) {v:Value} {a b:AV Ty} (hv:VRep E F w hp vals v a) (h:lend E hp1 a=some b)
  (hl:isRef a=true→ ∀r R b j,root hp1 r=some R→sets r b j→F' b j):Rep E F' w v b∧ ∀m t x,b≠ .box m t x:=by
 unfold lend at h
 split at h
 ·rename_i cs
  split at h
  ·rename_i r e
   cases h
   obtain ⟨vs,rfl,h1,h2⟩:=hv.agg'
   have hlen: ∀ {l r:List (AV Ty)},lendL E hp1 l=some r→r.length=l.length:=by
    intro l
    induction l with
    |nil=>intro r h;cases h;rfl
    |cons c l ih=>
     intro r h
     unfold lendL at h
     split at h
     ·rename_i e2;cases h;simp [ih e2]
     ·cases h
   refine ⟨.agg vs r (by rw [h1,hlen e]) (fun i v b q1 q2=> ?_),fun m t x h=>by cases h⟩
   have hi:i<cs.length:=by rw [←h1];exact (Array.getElem?_eq_some_iff.1 q1).1
   exact lendL_ok G H hsub hF e ⟨hlen e,hl⟩ i v _ b (List.getElem?_eq_getElem hi) q2 (h2 i v _ q1 (List.getElem?_eq_getElem hi))
  ·cases h
 ·rename_i hn
  have hr:isRef a=ref0 a:=by cases a<;>first|rfl|exact absurd rfl (hn _)
  rw [hr] at hl
  refine ⟨lend0_ok G H hsub hF hv h hl,fun m t x hb=> ?_⟩
  subst hb
  unfold lend0 at h
  split at h<;>first|cases h|(split at h<;>first|cases h|(split at h<;>cases h))
end
end Go.Proofs.Ytggibjbcbicpjaa.Ev
namespace Go.Proofs.Ytggibjbcbicpjaa.Ev
open Go
set_option linter.unusedVariables false
set_option linter.unusedSimpArgs false
section
variable {Ty:Nat→Type} {E:Tb Ty}
variable {X:Set2} {W0:World} {F F':Set2} {w w':World} {hp hp':Heap Ty} {vals vals':Nat→Value} {sets sets':Nat→Set2} {P:Program} {ρ:Operand→Value}
theorem restore_len: ∀(rs:List (Option Nat)) (hp:Heap Ty) (outs:List (AV Ty)),(restore hp rs outs).length=hp.length
 |[],hp,outs=>by unfold restore;rfl
 |none :: rs,hp,[]=>by unfold restore;rfl
 |some r :: rs,hp,[]=>by unfold restore;rfl
 |none :: rs,hp,a :: l=>by unfold restore;exact restore_len rs hp l
 |some r :: rs,hp,a :: l=>by
  cases a<;>(unfold restore;first|exact restore_len rs hp l|(rw [restore_len rs _ l,List.length_set]))
theorem restore_out: ∀(rs:List (Option Nat)) (hp:Heap Ty) (outs:List (AV Ty)) (q:Nat),(∀(i:Nat),rs[i]? ≠some (some q))→root (restore hp rs outs) q=root hp q
 |[],hp,outs,q,h=>by unfold restore;rfl
 |none :: rs,hp,[],q,h=>by unfold restore;rfl
 |some r :: rs,hp,[],q,h=>by unfold restore;rfl
 |none :: rs,hp,a :: l,q,h=>by unfold restore;exact restore_out rs hp l q (fun i e=>h (i+1) (by simpa using e))
 |some r :: rs,hp,a :: l,q,h=>by
  have h': ∀(i:Nat),rs[i]? ≠some (some q):=fun i e=>h (i+1) (by simpa using e)
  have hne:r≠q:=fun e=>h 0 (by simp [e])
  cases a<;>(unfold restore;first|exact restore_out rs hp l q h'|(rw [restore_out rs _ l q h',root_set,if_neg hne]))
theorem restore_in: ∀(rs:List (Option Nat)) (hp:Heap Ty) (outs:List (AV Ty)) (q i:Nat) (m:Bool) (t:Nat) (x:Ty t),rs[i]? =some (some q)→(∀(i':Nat),rs[i']? =some (some q)→i'=i)→outs[i]? =some (.box m t x)→q<hp.length→root (restore hp rs outs) q=some ⟨t,m,[x]⟩
 |[],hp,outs,q,i,m,t,x,h,_,_,_=>by simp at h
 |r :: rs,hp,[],q,i,m,t,x,h,_,h2,_=>by simp at h2
 |none :: rs,hp,a :: l,q,i,m,t,x,h,hu,h2,hq=>by
  cases i with
  |zero=>simp at h
  |succ i=>unfold restore;exact restore_in rs hp l q i m t x (by simpa using h) (fun i' e=>by have:=hu (i'+1) (by simpa using e);omega) (by simpa using h2) hq
 |some r :: rs,hp,a :: l,q,i,m,t,x,h,hu,h2,hq=>by
  cases i with
  |zero=>
   simp at h h2
   subst h h2
   unfold restore
   rw [restore_out rs _ l r (fun i' e=>by have:=hu (i'+1) (by simpa using e);omega),root_set,if_pos rfl,if_pos hq]
  |succ i=>
   have h':rs[i]? =some (some q):=by simpa using h
   have hu': ∀(i':Nat),rs[i']? =some (some q)→i'=i:=fun i' e=>by have:=hu (i'+1) (by simpa using e);omega
   have h2':l[i]? =some (.box m t x):=by simpa using h2
   cases a<;>(unfold restore;first|exact restore_in rs hp l q i m t x h' hu' h2' hq|(exact restore_in rs _ l q i m t x h' hu' h2' (by rw [List.length_set];exact hq)))
theorem Rep.eqv {v x:Value} (h:Rep E F w v (.v x:AV Ty)):v=x:=by
 cases h
 rfl
theorem Own.weaken (G:Good E) {v:Value} {t:Nat} {xs:List (Ty t)} {S:Set2} {m:Bool} (h:Own E F w m v t xs S) (hm:m=true) (hs:E.sole t=true) (hF: ∀b j,F' b j→F b j):Own E F' w m v t xs S:=by
 subst hm
 induction h with
 |nil A t S h=>exact .nil A t S h
 |row b off c t xs g B S h1 h2 h3 h4 h5 h6 h7 h8 h9 ih=>
  refine .row b off c t xs g B S h1 (fun j hj=>⟨(h2 j hj).1,(h2 j hj).2.1,fun h=>(h2 j hj).2.2 (hF _ _ h)⟩) h3 (fun i x o a e1 e2 e3=> ?_) (fun i x o t' ys e1 e2=> ?_) h6 h7 h8 h9
  ·rcases G.sole t hs x a (List.mem_of_getElem? e2) with ⟨y,rfl⟩|⟨t',ys,rfl,_⟩
   ·rw [(h4 i x o _ e1 e2 e3).eqv]
    exact .v _
   ·exact absurd trivial e3
  ·rcases G.sole t hs x _ (List.mem_of_getElem? e2) with ⟨y,hy⟩|⟨t2,ys2,hy,hs2⟩
   ·cases hy
   ·cases hy
    exact ih i x o t' ys e1 e2 hs2
theorem ResOk.same (G:Good E) {v:Value} {a:AV Ty} {S:Set2} (h:ResOk E F w v a S) (hF: ∀b j,F b j→F' b j) (hF': ∀b j,F' b j→F b j):ResOk E F' w v a S:=by
 induction h with
 |v x S h=>exact .v x S h
 |fr v t xs S h hS=>exact .fr v t xs S (h.stable fun b j h=>⟨hF b j h,rfl⟩) hS
 |own v t xs S h=>exact .own v t xs S (h.stable (w:=w) (w':=w) G (fun b j h=>⟨hF b j h,rfl⟩) (fun b j h=>⟨rfl,rfl⟩) (fun b j _ h=>hF' b j h))
 |box b off c m t x S h=>exact .box b off c m t x S (h.stable (w:=w) (w':=w) G (fun b j h=>⟨hF b j h,rfl⟩) (fun b j h=>⟨rfl,rfl⟩) (fun b j _ h=>hF' b j h))
 |agg vs cs B S h1 h2 h3 h4 ih=>exact .agg vs cs B S h1 ih h3 h4
 |tup vs cs B S h1 h2 h3 h4 ih=>exact .tup vs cs B S h1 ih h3 h4
theorem ResOk.weak0 (G:Good E) {v:Value} {a:AV Ty} {S:Set2} (h:ResOk E F w v a S) (hf:fr0 E a=false) (hF: ∀b j,F' b j→F b j):ResOk E F' w v a S:=by
 cases h with
 |v x _ h=>exact .v _ S h
 |fr v t xs _ h hS=>cases hf
 |own v t xs _ h=>exact .own v t xs S (h.weaken G rfl (by simpa [fr0] using hf) hF)
 |box b off c m t x _ h=>
  cases m with
  |false=>cases hf
  |true=>exact .box b off c true t x S (h.weaken G rfl (by simpa [fr0] using hf) hF)
 |agg vs cs B _ h1 h2 h3 h4=>cases hf
 |tup vs cs B _ h1 h2 h3 h4=>cases hf
theorem any_false {α:Type} {f:α→Bool} {l:List α} (h:l.any f=false) {i:Nat} {a:α} (e:l[i]? =some a):f a=false:=by
 rw [List.any_eq_false] at h
 have:=h a (List.mem_of_getElem? e)
 simpa using this
theorem ResOk.weak1 (G:Good E) {v:Value} {a:AV Ty} {S:Set2} (h:ResOk E F w v a S) (hf:fr1 E a=false) (hF: ∀b j,F' b j→F b j):ResOk E F' w v a S:=by
 cases a with
 |agg cs=>
  cases h with
  |agg vs _ B _ h1 h2 h3 h4=>exact .agg vs cs B S h1 (fun i v a e1 e2=>(h2 i v a e1 e2).weak0 G (any_false hf e2) hF) h3 h4
 |v x=>exact h.weak0 G hf hF
 |sl o t xs=>exact h.weak0 G hf hF
 |rp t xs i o=>exact h.weak0 G hf hF
 |box m t x=>exact h.weak0 G hf hF
 |tup cs=>exact h.weak0 G hf hF
 |dead=>exact h.weak0 G hf hF
 |mp kd q kv=>exact h.weak0 G hf hF
 |vb cs=>exact h.weak0 G hf hF
 |ref r p vw f=>exact h.weak0 G hf hF
 |ext r p t xs=>exact h.weak0 G hf hF
 |ptr r p i o=>exact h.weak0 G hf hF
theorem ResOk.weak2 (G:Good E) {v:Value} {a:AV Ty} {S:Set2} (h:ResOk E F w v a S) (hf:fr2 E a=false) (hF: ∀b j,F' b j→F b j):ResOk E F' w v a S:=by
 cases a with
 |tup cs=>
  cases h with
  |tup vs _ B _ h1 h2 h3 h4=>exact .tup vs cs B S h1 (fun i v a e1 e2=>(h2 i v a e1 e2).weak1 G (any_false hf e2) hF) h3 h4
 |v x=>exact h.weak1 G hf hF
 |sl o t xs=>exact h.weak1 G hf hF
 |rp t xs i o=>exact h.weak1 G hf hF
 |box m t x=>exact h.weak1 G hf hF
 |agg cs=>exact h.weak1 G hf hF
 |dead=>exact h.weak1 G hf hF
 |mp kd q kv=>exact h.weak1 G hf hF
 |vb cs=>exact h.weak1 G hf hF
 |ref r p vw f=>exact h.weak1 G hf hF
 |ext r p t xs=>exact h.weak1 G hf hF
 |ptr r p i o=>exact h.weak1 G hf hF
theorem lendAll_ok {hp1:Heap Ty}: ∀ {rs:List (Option Nat)} {as bs:List (AV Ty)},lendAll E hp1 rs as=some bs→bs.length=as.length∧rs.length=as.length∧
  (∀(i:Nat) a b,rs[i]? =some none→as[i]? =some a→bs[i]? =some b→lend E hp1 a=some b∧(isRef a=true→anyLent rs as=true))∧ ∀(i q:Nat),rs[i]? =some (some q)→bs[i]? =as[i]?
 |[],[],bs,h=>by cases h;exact ⟨rfl,rfl,fun i a b e=>by simp at e,fun i q e=>by simp at e⟩
 |[],a :: as,bs,h=>by cases h
 |none :: rs,[],bs,h=>by cases h
 |some r :: rs,[],bs,h=>by cases h
 |none :: rs,a :: as,bs,h=>by
  unfold lendAll at h
  split at h
  ·rename_i b r e1 e2
   cases h
   obtain ⟨h1,h2,h3,h4⟩:=lendAll_ok e2
   refine ⟨by simp [h1],by simp [h2],fun i a' b' q1 q2 q3=> ?_,fun i q q1=> ?_⟩
   ·cases i with
    |zero=>cases q2;cases q3;exact ⟨e1,fun h=>by simp [anyLent,h]⟩
    |succ i=>
     obtain ⟨k1,k2⟩:=h3 i a' b' (by simpa using q1) (by simpa using q2) (by simpa using q3)
     exact ⟨k1,fun h=>by simp [anyLent,k2 h]⟩
   ·cases i with
    |zero=>simp at q1
    |succ i=>simpa using h4 i q (by simpa using q1)
  ·cases h
 |some r :: rs,a :: as,bs,h=>by
  unfold lendAll at h
  split at h
  ·rename_i r' e2
   cases h
   obtain ⟨h1,h2,h3,h4⟩:=lendAll_ok e2
   refine ⟨by simp [h1],by simp [h2],fun i a' b' q1 q2 q3=> ?_,fun i q q1=> ?_⟩
   ·cases i with
    |zero=>simp at q1
    |succ i=>
     obtain ⟨k1,k2⟩:=h3 i a' b' (by simpa using q1) (by simpa using q2) (by simpa using q3)
     exact ⟨k1,fun h=>by simp [anyLent,k2 h]⟩
   ·cases i with
    |zero=>rfl
    |succ i=>simpa using h4 i q (by simpa using q1)
  ·cases h
theorem kills_mem: ∀ {rs:List (Option Nat)} {i q:Nat},rs[i]? =some (some q)→(q,1)∈killsOf rs
 |[],i,q,h=>by simp at h
 |none :: rs,i,q,h=>by
  cases i with
  |zero=>simp at h
  |succ i=>unfold killsOf;exact kills_mem (rs:=rs) (by simpa using h)
 |some r :: rs,i,q,h=>by
  unfold killsOf
  cases i with
  |zero=>simp at h;subst h;exact List.mem_cons_self
  |succ i=>exact List.mem_cons_of_mem _ (kills_mem (rs:=rs) (by simpa using h))
theorem Keep.trans {Xc:Set2} (h:Keep X W0 w) (k:Keep Xc w w') (hx: ∀b j,Xc b j→X b j∨W0.heap.size≤b):Keep X W0 w' where
 os:=k.os.trans h.os
 tape:=k.tape.trans h.tape
 output:=k.output.trans h.output
 size:=Nat.le_trans h.size k.size
 block:=fun i hi hxi=>(k.block i (Nat.lt_of_lt_of_le hi h.size) (fun j hc=>by rcases hx _ _ hc with h'|h';exact hxi _ h';omega)).trans (h.block i hi hxi)
 cell:=fun b j hb hn=>by
  obtain ⟨k1,k2⟩:=k.cell b j (Nat.lt_of_lt_of_le hb h.size) (fun hc=>by rcases hx _ _ hc with h'|h';exact hn h';omega)
  obtain ⟨h1,h2⟩:=h.cell b j hb hn
  exact ⟨k1.trans h1,k2.trans h2⟩
theorem call_ok (G:Good E) (I:Inv E X W0 F w hp vals sets) {mu:List Bool} {S:List (AV Ty)→T (AV Ty×List (AV Ty))} {f:FuncId} {args:List (AV Ty)} {vs:List Value} (hlen:vs.length=args.length) (hv: ∀(i:Nat) v a,vs[i]? =some v→args[i]? =some a→VRep E F w hp vals v a)
  (hS: ∀as r outs,(S as).val=some (r,outs)→CallOk E P f as r outs) {res:EffR Ty} (h:(callT E hp mu S args).val=some res):
  Calls P f vs.toArray w fun e w'=> ∃(v:Value) (F':Set2) (vals':Nat→Value) (sets':Nat→Set2),e= .returned v∧Inv E X W0 F' w' res.2.1 vals' sets'∧VRep E F' w' res.2.1 vals' v res.1∧
   (∀u a,VRep E F w hp vals u a→VRep E F' w' res.2.1 vals' u (killA res.2.2 a))∧(∀j,j<hp.length→vals' j=vals j)∧Grow X W0 F F':=by
 unfold callT at h
 split at h
 ·rename_i as hp1 rs hf
  split at h
  ·rename_i bs hb
   rw [T.val_bind] at h
   obtain ⟨⟨r,outs⟩,hs,h⟩:=h
   ·split at h
    ·rename_i hlf
     split at h
     ·rename_i a hp2 ht
      cases h
      have Fo:=focus_ok args mu hp hp1 as rs hf
      obtain ⟨b1,b2,b3,b4⟩:=lendAll_ok hb
      obtain ⟨Xc,hXc⟩: ∃Xc:Set2,∀b j,Xc b j↔ ∃i q:Nat,rs[i]? =some (some q)∧sets q b j:=⟨fun b j=> ∃i q:Nat,rs[i]? =some (some q)∧sets q b j,fun _ _=>Iff.rfl⟩
      obtain ⟨Fc,hFc⟩: ∃Fc:Set2,∀b j,Fc b j↔F b j∨(anyLent rs as=true∧ ∃q R,root hp1 q=some R∧sets q b j):=⟨fun b j=>F b j∨(anyLent rs as=true∧ ∃q R,root hp1 q=some R∧sets q b j),fun _ _=>Iff.rfl⟩
      obtain ⟨setc,hsetc⟩: ∃setc:Nat→Set2,∀i b j,setc i b j↔ ∃q:Nat,rs[i]? =some (some q)∧sets q b j:=⟨fun i b j=> ∃q:Nat,rs[i]? =some (some q)∧sets q b j,fun _ _ _=>Iff.rfl⟩
      have focR: ∀(i q:Nat),rs[i]? =some (some q)→ ∃R,root hp q=some R:=fun i q e=>by obtain ⟨m,t,x,_,_,h,_⟩:=Fo.yes i q e;exact ⟨_,h⟩
      obtain ⟨caps,hcaps⟩: ∃caps:Nat→Nat,∀i q A c,rs[i]? =some (some q)→vals q= .slice A 1 c→caps i=c:=⟨fun i=>match rs[i]? with
       |some (some q)=>match vals q with
        | .slice _ _ c=>c
        |_=>0
       |_=>0,fun i q A c h1 h2=>by simp only [h1,h2]⟩
      have FnotS: ∀q R b j,root hp q=some R→sets q b j→ ¬F b j:=fun q R b j h s=>((I.H.own q R h).free b j s).2.2
      have ownC: ∀(i q:Nat),rs[i]? =some (some q)→ ∃m t x b off c,as[i]? =some (.box m t x)∧root hp q=some ⟨t,m,[x]⟩∧vs[i]? =some (.pointer (some ⟨b,off,none⟩))∧vals q= .slice (some ⟨b,off,none⟩) 1 c∧Own E Fc w m (.slice (some ⟨b,off,none⟩) 1 c) t [x] (setc i):=by
       intro i q hr
       obtain ⟨m,t,x,k1,k2,k3,k4⟩:=Fo.yes i q hr
       have hvi:i<vs.length:=by rw [hlen];exact get_lt k2
       have e1:=List.getElem?_eq_getElem hvi
       obtain ⟨R,b,off,c,row,g1,g2,g3,g4⟩:=(hv i _ _ e1 k2).ptr'
       rw [k3] at g1
       cases g1
       obtain ⟨g5,rfl⟩:=g2
       refine ⟨m,t,x,b,off,c,k1,k3,by rw [e1,g4];simp,g5.symm,?_⟩
       have hO:=I.H.own q _ k3
       simp only at hO g5
       rw [←g5] at hO
       have hO2:Own E Fc w m (.slice (some ⟨b,off,none⟩) 1 c) t [x] (sets q):=by
        refine hO.stable (w:=w) (w':=w) G (fun b j h=>⟨(hFc b j).2 (.inl h),rfl⟩) (fun _ _ _=>⟨rfl,rfl⟩) (fun b j hs hf'=> ?_)
        rcases (hFc b j).1 hf' with h|⟨_,q',R',h1,h2⟩
        ·exact h
        ·have:=I.H.dj _ _ _ _ (Fo.sub _ _ h1) k3 b j h2 hs
         subst this
         rw [k4] at h1;cases h1
       refine hO2.congr fun b j=>⟨fun h=> ?_,fun h=>(hsetc i b j).2 ⟨q,hr,h⟩⟩
       obtain ⟨q',h1,h2⟩:=(hsetc i b j).1 h
       rw [hr] at h1
       cases h1
       exact h2
      have A:ArgsOk E w Fc Xc vs bs setc caps:=by
       refine ⟨by rw [hlen,b1,Fo.l1],fun b j h=> ?_,fun i v b e1 e2 e3=> ?_,fun i v m t x e1 e2=> ?_,fun i i' b j h1 h2=> ?_,fun i b j h=> ?_,fun b j h=> ?_⟩
       ·rw [hFc] at h
        rcases h with h|⟨_,q,R,h1,h2⟩
        ·refine ⟨I.fb _ _ h,fun hx=> ?_⟩
         obtain ⟨i,q,h1,h2⟩:=(hXc _ _).1 hx
         obtain ⟨R,hR⟩:=focR i q h1
         exact FnotS q R b j hR h2 h
        ·refine ⟨I.lt (Fo.sub _ _ h1) h2,fun hx=> ?_⟩
         obtain ⟨i,q',h3,h4⟩:=(hXc _ _).1 hx
         obtain ⟨m,t,x,_,_,h5,h6⟩:=Fo.yes i q' h3
         have:=I.H.dj _ _ _ _ (Fo.sub _ _ h1) h5 b j h2 h4
         subst this
         rw [h6] at h1;cases h1
       ·have hi:i<rs.length:=by rw [b2,←b1];exact get_lt e2
        have hr:=List.getElem?_eq_getElem hi
        cases hq:rs[i] with
        |none=>
         rw [hq] at hr
         have ha:as[i]? =some (as[i]'(by omega)):=List.getElem?_eq_getElem (by omega)
         obtain ⟨k1,k2⟩:=b3 i _ b hr ha e2
         have ha2:=Fo.no i hr
         rw [ha] at ha2
         exact (lend_ok G I.H Fo.sub (fun b j h=>(hFc b j).2 (.inl h)) (hv i v _ e1 ha2.symm) k1 (fun h q R b j h1 h2=>(hFc b j).2 (.inr ⟨k2 h,q,R,h1,h2⟩))).1
        |some q=>
         rw [hq] at hr
         obtain ⟨m,t,x,k1,_⟩:=Fo.yes i q hr
         rw [b4 i q hr,k1] at e2
         cases e2
         exact absurd rfl (e3 m t x)
       ·have hi:i<rs.length:=by rw [b2,←b1];exact get_lt e2
        have hr:=List.getElem?_eq_getElem hi
        cases hq:rs[i] with
        |none=>
         rw [hq] at hr
         have ha:as[i]? =some (as[i]'(by omega)):=List.getElem?_eq_getElem (by omega)
         obtain ⟨k1,k2⟩:=b3 i _ _ hr ha e2
         have ha2:=Fo.no i hr
         rw [ha] at ha2
         exact absurd rfl ((lend_ok G I.H Fo.sub (F':=fun b j=>True) (fun b j h=>trivial) (hv i v _ e1 ha2.symm) k1 (fun h q R b j h1 h2=>trivial)).2 m t x)
        |some q=>
         rw [hq] at hr
         obtain ⟨m',t',x',b,off,c,k1,k2,k3,k4,k5⟩:=ownC i q hr
         rw [b4 i q hr,k1] at e2
         cases e2
         rw [e1] at k3
         exact ⟨b,off,Option.some.inj k3,by rw [hcaps i q _ c hr k4];exact k5⟩
       ·obtain ⟨q,k1,k2⟩:=(hsetc i b j).1 h1
        obtain ⟨q',k3,k4⟩:=(hsetc i' b j).1 h2
        obtain ⟨R,hR⟩:=focR i q k1
        obtain ⟨R',hR'⟩:=focR i' q' k3
        have:=I.H.dj _ _ _ _ hR hR' b j k2 k4
        subst this
        exact Fo.inj i i' q k1 k3
       ·obtain ⟨q,k1,k2⟩:=(hsetc i b j).1 h
        exact (hXc b j).2 ⟨i,q,k1,k2⟩
       ·obtain ⟨i,q,k1,k2⟩:=(hXc b j).1 h
        obtain ⟨m,t,x,k3,_⟩:=Fo.yes i q k1
        exact ⟨i,m,t,x,by rw [b4 i q k1];exact k3,(hsetc i b j).2 ⟨q,k1,k2⟩⟩
      refine ((hS bs r outs hs).1 A.noGift w Fc Xc vs setc caps A).mono ?_
      rintro e w' ⟨v,Sr,F',sets',rfl,hK,c1,c2,c3,c4,c5,c6,c7,c8,c9⟩
      obtain ⟨Fn,hFn⟩: ∃Fn:Set2,∀b j,Fn b j↔F b j∨(F' b j∧(w.heap.size≤b∨Xc b j)):=⟨fun b j=>F b j∨(F' b j∧(w.heap.size≤b∨Xc b j)),fun _ _=>Iff.rfl⟩
      have FnF: ∀b j,Fn b j→F' b j:=fun b j h=>by
       rcases (hFn b j).1 h with h|h
       ·exact c1 _ _ ((hFc _ _).2 (.inl h))
       ·exact h.1
      have noL:anyLent rs as=false→ ∀b j,F' b j→Fn b j:=fun hl b j h=>by
       rcases c2 b j h with h'|h'|h'
       ·rcases (hFc b j).1 h' with h'|⟨h',_⟩
        ·exact (hFn b j).2 (.inl h')
        ·rw [hl] at h';cases h'
       ·exact (hFn b j).2 (.inr ⟨h, .inl h'⟩)
       ·exact (hFn b j).2 (.inr ⟨h, .inr h'⟩)
      have XcS: ∀q R b j,root hp q=some R→(∀i:Nat,rs[i]? ≠some (some q))→sets q b j→ ¬Xc b j:=fun q R b j h hn s hx=>by
       obtain ⟨i,q',k1,k2⟩:=(hXc b j).1 hx
       obtain ⟨R',hR'⟩:=focR i q' k1
       have:=I.H.dj _ _ _ _ h hR' b j s k2
       subst this
       exact hn i k1
      have keepF: ∀b j,F b j→w'.cell? ⟨b,j,none⟩=w.cell? ⟨b,j,none⟩:=fun b j h=>(hK.cell b j (I.fb _ _ h) (A.fb b j ((hFc b j).2 (.inl h))).2).1
      have keepS: ∀q R b j,root hp q=some R→(∀i:Nat,rs[i]? ≠some (some q))→sets q b j→w'.cell? ⟨b,j,none⟩=w.cell? ⟨b,j,none⟩∧w'.frozen? ⟨b,j,none⟩=w.frozen? ⟨b,j,none⟩:=fun q R b j h hn s=>hK.cell b j (I.lt h s) (XcS q R b j h hn s)
      have dec: ∀q,(∃i:Nat,rs[i]? =some (some q))∨ ∀i:Nat,rs[i]? ≠some (some q):=fun q=>by
       by_cases h: ∃i:Nat,rs[i]? =some (some q)
       ·exact .inl h
       ·exact .inr fun i e=>h ⟨i,e⟩
      have foc2: ∀(i q:Nat),rs[i]? =some (some q)→ ∃m t x x',root hp q=some ⟨t,m,[x]⟩∧root (restore hp1 rs outs) q=some ⟨t,m,[x']⟩∧Own E Fn w' m (vals q) t [x'] (sets' i):=fun i q e=>by
       obtain ⟨m,t,x,b,off,c,k1,k3,hvv,g5,q2⟩:=ownC i q e
       have hbx:bs[i]? =some (.box m t x):=by rw [b4 i q e];exact k1
       obtain ⟨x',q4,q5⟩:=c7 i m t x b off hbx hvv
       rw [hcaps i q _ c e g5] at q5
       refine ⟨m,t,x,x',k3,restore_in rs hp1 outs q i m t x' e (fun i' e'=>Fo.inj i' i q e' e) q4 (by rw [Fo.len];exact root_lt k3),?_⟩
       rw [g5]
       cases hl:anyLent rs as with
       |false=>exact q5.stable (w:=w') (w':=w') G (fun b j h=>⟨noL hl b j h,rfl⟩) (fun _ _ _=>⟨rfl,rfl⟩) (fun b j _ h=>FnF b j h)
       |true=>
        rw [hl] at hlf
        have:(fr2 E r || !(bs.all (deepBox E)))=false:=by simpa using hlf
        rw [Bool.or_eq_false_iff] at this
        have hall:bs.all (deepBox E)=true:=by simpa using this.2
        rw [List.all_eq_true] at hall
        have:=hall _ (List.mem_of_getElem? hbx)
        cases m with
        |false=>cases this
        |true=>exact q5.weaken G rfl (by simpa [deepBox] using this) FnF
      have unf: ∀q,(∀i:Nat,rs[i]? ≠some (some q))→root (restore hp1 rs outs) q=root hp1 q:=fun q h=>restore_out rs hp1 outs q h
      have old: ∀q R,(∀i:Nat,rs[i]? ≠some (some q))→root hp q=some R→root hp1 q=some R:=fun q R hn h=>by
       rcases Fo.out q R h with h|⟨i,h⟩
       ·exact h
       ·exact absurd h (hn i)
      obtain ⟨sets2,hsets2⟩: ∃sets2:Nat→Set2,∀q b j,sets2 q b j↔(∃i:Nat,rs[i]? =some (some q)∧sets' i b j)∨((∀i:Nat,rs[i]? ≠some (some q))∧sets q b j):=
       ⟨fun q b j=>(∃i:Nat,rs[i]? =some (some q)∧sets' i b j)∨((∀i:Nat,rs[i]? ≠some (some q))∧sets q b j),fun _ _ _=>Iff.rfl⟩
      have newX: ∀i b j,sets' i b j→ ∀q R,root hp q=some R→(∀i:Nat,rs[i]? ≠some (some q))→ ¬sets q b j:=fun i b j h q R hq hn s=>by
       rcases (c8 i b j h).1 with h'|h'
       ·have:=I.lt hq s;omega
       ·exact XcS q R b j hq hn s h'
      have I2:Inv E X W0 Fn w' (restore hp1 rs outs) vals sets2:=by
       refine ⟨⟨fun q R h=> ?_,fun q q' R R' h1 h2 b j s1 s2=> ?_⟩,fun b j h=> ?_,fun q R b j h s=> ?_,I.keep.trans hK (fun b j h=> ?_)⟩
       ·rcases dec q with ⟨i,e⟩|hn
        ·obtain ⟨m,t,x,x',k1,k2,k3⟩:=foc2 i q e
         rw [k2] at h
         cases h
         refine k3.congr fun b j=>⟨fun h=> ?_,fun h=>(hsets2 q b j).2 (.inl ⟨i,e,h⟩)⟩
         rcases (hsets2 q b j).1 h with ⟨i',e',h⟩|⟨hn,_⟩
         ·rw [Fo.inj i i' q e e'];exact h
         ·exact absurd e (hn i)
        ·rw [unf q hn] at h
         have h0:=Fo.sub _ _ h
         refine ((I.H.own q R h0).stable G (fun b j h=>⟨(hFn b j).2 (.inl h),keepF b j h⟩) (fun b j s=>keepS q R b j h0 hn s) (fun b j s hf'=> ?_)).congr fun b j=>⟨fun h=> ?_,fun h=>(hsets2 q b j).2 (.inr ⟨hn,h⟩)⟩
         ·rcases (hFn b j).1 hf' with h|⟨_,h|h⟩
          ·exact h
          ·have:=I.lt h0 s;omega
          ·exact absurd h (XcS q R b j h0 hn s)
         ·rcases (hsets2 q b j).1 h with ⟨i,e,_⟩|⟨_,h⟩
          ·exact absurd e (hn i)
          ·exact h
       ·have up: ∀q R,root (restore hp1 rs outs) q=some R→(∀i:Nat,rs[i]? ≠some (some q))→root hp q=some R:=fun q R h hn=>by rw [unf q hn] at h;exact Fo.sub _ _ h
        rcases (hsets2 q b j).1 s1 with ⟨i,e,s1⟩|⟨hn,s1⟩
        ·rcases (hsets2 q' b j).1 s2 with ⟨i',e',s2⟩|⟨hn',s2⟩
         ·have:=c9 _ _ _ _ s1 s2
          subst this
          rw [e] at e'
          cases e'
          rfl
         ·exact absurd s2 (newX i b j s1 q' R' (up _ _ h2 hn') hn')
        ·rcases (hsets2 q' b j).1 s2 with ⟨i',e',s2⟩|⟨hn',s2⟩
         ·exact absurd s1 (newX i' b j s2 q R (up _ _ h1 hn) hn)
         ·exact I.H.dj _ _ _ _ (up _ _ h1 hn) (up _ _ h2 hn') b j s1 s2
       ·exact c3 _ _ (FnF _ _ h)
       ·rcases (hsets2 q b j).1 s with ⟨i,e,s⟩|⟨hn,s⟩
        ·rcases (c8 i b j s).1 with h'|h'
         ·right;have:=I.keep.size;omega
         ·obtain ⟨i',q',k1,k2⟩:=(hXc b j).1 h'
          obtain ⟨R',hR'⟩:=focR i' q' k1
          exact I.lim _ _ _ _ hR' k2
        ·rw [unf q hn] at h
         exact I.lim _ _ _ _ (Fo.sub _ _ h) s
       ·obtain ⟨i',q',k1,k2⟩:=(hXc b j).1 h
        obtain ⟨R',hR'⟩:=focR i' q' k1
        exact I.lim _ _ _ _ hR' k2
      have RO:ResOk E Fn w' v r Sr:=by
       cases hl:anyLent rs as with
       |false=>exact c4.same G (noL hl) FnF
       |true=>
        rw [hl] at hlf
        have:(fr2 E r || !(bs.all (deepBox E)))=false:=by simpa using hlf
        rw [Bool.or_eq_false_iff] at this
        exact c4.weak2 G this.1 FnF
      obtain ⟨vals3,sets3,I3,M3,V3⟩:=take_ok RO ht I2 (fun q R b j h s hs=>by
       rcases (hsets2 q b j).1 s with ⟨i,e,s⟩|⟨hn,s⟩
       ·exact (c8 i b j s).2 hs
       ·rw [unf q hn] at h
        rcases c5 b j hs with h'|h'
        ·have:=I.lt (Fo.sub _ _ h) s;omega
        ·exact XcS q R b j (Fo.sub _ _ h) hn s h') (fun b j hs=>by
       rcases c5 b j hs with h'|h'
       ·right;have:=I.keep.size;omega
       ·obtain ⟨i',q',k1,k2⟩:=(hXc b j).1 h'
        obtain ⟨R',hR'⟩:=focR i' q' k1
        exact I.lim _ _ _ _ hR' k2)
      refine ⟨v,Fn,vals3,sets3,rfl,I3,V3,fun u a' hu=>VRep.more M3 ?_,fun j hj=>(M3.old j (by rw [restore_len,Fo.len];exact hj)).2.1,fun b j h=>(hFn b j).2 (.inl h),fun b j h=> ?_⟩
      rotate_left
      ·rcases (hFn b j).1 h with h|⟨_,h|h⟩
       ·exact .inl h
       ·have:=I.keep.size
        exact .inr (.inr (by omega))
       ·obtain ⟨i',q',k1,k2⟩:=(hXc b j).1 h
        obtain ⟨R',hR'⟩:=focR i' q' k1
        exact .inr (I.lim _ _ _ _ hR' k2)
      refine survive (fun b j h=>⟨(hFn b j).2 (.inl h),keepF b j h⟩) (fun q R p h1 hh=> ?_) hu
      rcases dec q with ⟨i,e⟩|hn
      ·obtain ⟨m,t,x,x',k1,k2,k3⟩:=foc2 i q e
       rw [k1] at h1
       cases h1
       have:=hit_mem hh (kills_mem e)
       have hp0:p=[]:=List.length_eq_zero_iff.1 (by omega)
       subst hp0
       refine ⟨⟨t,m,[x']⟩,k2,fun u row hl=> ?_⟩
       obtain ⟨rfl,rfl⟩:=hl
       exact ⟨[x'],⟨rfl,rfl⟩,rfl⟩
      ·exact survive_root (hp':=restore hp1 rs outs) (vals':=vals) G I.H h1 (by rw [unf q hn];exact old q R hn h1) rfl (fun b j s=>(keepS q R b j h1 hn s).1)
     ·cases h
    ·cases h
  ·cases h
 ·cases h
end
end Go.Proofs.Ytggibjbcbicpjaa.Ev
namespace Go.Proofs.Ytggibjbcbicpjaa.Ev
open Go
set_option linter.unusedVariables false
set_option linter.unusedSimpArgs false
section
variable {Ty:Nat→Type} {E:Tb Ty}
variable {X:Set2} {W0:World} {F F':Set2} {w w':World} {hp hp':Heap Ty} {vals vals':Nat→Value} {sets sets':Nat→Set2} {P:Program} {ρ:Operand→Value}
theorem Own.uniq {m:Bool} {v:Value} {t:Nat} {xs:List (Ty t)} {S:Set2} (h:Own E F w m v t xs S): ∀ {F2 S2:Set2},Own E F2 w m v t xs S2→ ∀b j,S b j→S2 b j:=by
 induction h with
 |nil A t S h=>intro F2 S2 _ b j hs;exact absurd hs (h b j)
 |row b off c t xs g B S h1 h2 h3 h4 h5 h6 h7 h8 h9 ih=>
  intro F2 S2 k b' j' hs
  rcases k.inv with ⟨⟨A,e⟩,e2,_⟩|⟨b2,off2,c2,g2,B2,e,R⟩
  ·injection e with q1 q2 q3
   subst q3
   rcases (h9 _ _).1 hs with ⟨_,h,h'⟩|⟨i,o,h⟩
   ·omega
   ·obtain ⟨x,t',ys,e1,_⟩:=h8 _ _ _ _ h
    rw [e2] at e1
    simp at e1
  ·injection e with q1 _ q3
   injection q1 with q1
   injection q1 with q1 q4
   subst q1 q4 q3
   rcases (h9 _ _).1 hs with h|⟨i,o,h⟩
   ·exact (R.iff _ _).2 (.inl h)
   ·obtain ⟨x,t',ys,e1,e2⟩:=h8 _ _ _ _ h
    have hg:g i o=g2 i o:=Option.some.inj ((h3 i x o _ e1 e2).symm.trans (R.cell i x o _ e1 e2))
    have:=R.own i x o t' ys e1 e2
    rw [←hg] at this
    exact R.sub (ih i x o t' ys e1 e2 this b' j' h)
theorem Loc.det {m:Bool}: ∀ {p:Path} {v:Value} {t:Nat} {xs:List (Ty t)} {u u2:Value} {row row2:Row Ty},Loc E w m v t xs p u row→Loc E w m v t xs p u2 row2→u=u2∧row=row2
 |[],v,t,xs,u,u2,row,row2,⟨h1,h2⟩,⟨k1,k2⟩=>⟨h1.trans k1.symm,h2.trans k2.symm⟩
 |(i,o) :: p,v,t,xs,u,u2,row,row2,⟨b,off,c,x,t',ys,v',h1,h2,h3,h4,h5⟩,⟨b2,off2,c2,x2,t2,ys2,v2,k1,k2,k3,k4,k5⟩=>by
  rw [h1] at k1
  injection k1 with q1 _ q3
  injection q1 with q1
  injection q1 with q1 q4
  subst q1 q4 q3
  rw [h2] at k2
  cases k2
  rw [h3] at k3
  cases k3
  rw [h4] at k4
  cases k4
  exact Loc.det h5 k5
theorem Own.spare (G:Good E) {m:Bool} {row:Row Ty} {b off c:Nat} (hW: ∀b' j,¬(b'=b∧off+row.xs.length*szOf E row.t≤j∧j<off+c*szOf E row.t)→w'.cell? ⟨b',j,none⟩=w.cell? ⟨b',j,none⟩)
  (hfro: ∀b' j,w'.frozen? ⟨b',j,none⟩=w.frozen? ⟨b',j,none⟩) (hcap: ∀j,off+row.xs.length*szOf E row.t≤j→j<off+c*szOf E row.t→ ∃v,w'.cell? ⟨b,j,none⟩=some v):
  ∀(p:Path) {v:Value} {t:Nat} {xs:List (Ty t)} {S:Set2},Own E F w m v t xs S→Loc E w m v t xs p (.slice (some ⟨b,off,none⟩) row.xs.length c) row→
   Own E F w' m v t xs S∧ ∀(q:Path) (u2:Value) (row2:Row Ty),Loc E w m v t xs q u2 row2→Loc E w' m v t xs q u2 row2
 |[],v,t,xs,S,ho,⟨hv,hr⟩=>by
  subst hr
  rcases ho.inv with ⟨⟨A,e⟩,e2,h0⟩|⟨b0,off0,c0,g,B,e,R⟩
  ·subst e2
   rw [e]
   refine ⟨.nil A t S h0,fun q u2 row2 hl=> ?_⟩
   cases q with
   |nil=>exact hl
   |cons s q=>obtain ⟨_,_,_,x,_,_,_,_,h2,_⟩:=hl;simp at h2
  ·rw [←hv] at e
   injection e with q1 _ q3
   injection q1 with q1
   injection q1 with q1 q4
   subst q1 q4 q3
   simp only at hW hcap
   have hF: ∀b' j,F b' j→w'.cell? ⟨b',j,none⟩=w.cell? ⟨b',j,none⟩:=fun b' j h=>hW _ _ (fun ⟨e1,e2,e3⟩=>by
    subst e1
    have:=(R.cap (j-off) (by omega)).2.2
    rw [show off+(j-off)=j by omega] at this
    exact this h)
   have hcell: ∀(i:Nat) x (o:Nat) a,xs[i]? =some x→((E.cod t).enc m x)[o]? =some a→w'.cell? ⟨b,off+(i*szOf E t+o),none⟩=w.cell? ⟨b,off+(i*szOf E t+o),none⟩:=fun i x o a e1 e2=>hW _ _ (fun ⟨_,h1,_⟩=>by
    have ho:o<szOf E t:=by have:=get_lt e2;rw [G.len] at this;exact this
    have:=lt_cells (get_lt e1) (Nat.le_refl _) ho
    omega)
   have hB: ∀i o b' j,B i o b' j→w'.cell? ⟨b',j,none⟩=w.cell? ⟨b',j,none⟩:=fun i o b' j h=>hW _ _ (fun ⟨e1,e2,e3⟩=>by
    subst e1
    have:=R.dr i o (j-off) (by omega)
    rw [show off+(j-off)=j by omega] at this
    exact this h)
   refine ⟨?_,fun q u2 row2 hl=> ?_⟩
   ·rw [←hv]
    refine OwnR.toOwn (g:=g) (B:=B) ⟨R.le,fun j hj=> ?_,fun i x o a e1 e2=>(hcell i x o a e1 e2).trans (R.cell i x o a e1 e2),fun i x o a e1 e2 e3=>(R.rep i x o a e1 e2 e3).stable fun b' j h=>⟨h,hF _ _ h⟩,
     fun i x o t' ys e1 e2=>(R.own i x o t' ys e1 e2).stable G (fun b' j h=>⟨h,hF _ _ h⟩) (fun b' j h=>⟨hB _ _ _ _ h,hfro _ _⟩) (fun b' j _ h=>h),R.dj,R.dr,R.rg,R.iff⟩
    obtain ⟨⟨v1,h1⟩,h2,h3⟩:=R.cap j hj
    refine ⟨?_,(hfro _ _).trans h2,h3⟩
    by_cases e:off+xs.length*szOf E t≤off+j
    ·have hj':j<c*szOf E t:=hj
     exact hcap _ e (show off+j<off+c*szOf E t by omega)
    ·exact ⟨v1,(hW _ _ (fun h=>e h.2.1)).trans h1⟩
   ·cases q with
    |nil=>exact hl
    |cons s q=>
     obtain ⟨i2,o2⟩:=s
     obtain ⟨b2,off2,c2,x,t',ys,v',h1,h2,h3,h4,h5⟩:=hl
     rw [←hv] at h1
     injection h1 with q1 _ q3
     injection q1 with q1
     injection q1 with q1 q4
     subst q1 q4 q3
     have hg:g i2 o2=v':=Option.some.inj ((R.cell i2 x o2 _ h2 h3).symm.trans h4)
     have hsub:=R.own i2 x o2 t' ys h2 h3
     rw [hg] at hsub
     exact ⟨b,off,c,x,t',ys,v',hv.symm,h2,h3,(hcell _ _ _ _ h2 h3).trans h4,h5.stable hsub G fun b' j h=>hB _ _ _ _ h⟩
 |(i,o) :: p,v,t,xs,S,ho,⟨b1,off1,c1,x,t',ys,v',h1,h2,h3,h4,h5⟩=>by
  rcases ho.inv with ⟨_,hnil,_⟩|⟨b0,off0,c0,g,B,hv0,R⟩
  ·rw [hnil] at h2;simp at h2
  ·rw [h1] at hv0
   injection hv0 with e1 e2 e3
   injection e1 with e1
   injection e1 with e1 e4
   subst e1 e4 e3
   have hg:g i o=v':=Option.some.inj ((R.cell i x o _ h2 h3).symm.trans h4)
   have hsub:=R.own i x o t' ys h2 h3
   rw [hg] at hsub
   obtain ⟨hO,hL⟩:=Own.spare G hW hfro hcap p hsub h5
   have hrange: ∀j,off+row.xs.length*szOf E row.t≤j→j<off+c*szOf E row.t→B i o b j:=fun j q1 q2=>by
    have:=Loc.cells G hsub h5 (j-off) (by omega)
    rwa [show off+(j-off)=j by omega] at this
   have hrow: ∀j,j<c1*szOf E t→w'.cell? ⟨b1,off1+j,none⟩=w.cell? ⟨b1,off1+j,none⟩:=fun j hj=>hW _ _ (fun ⟨q1,q2,q3⟩=>by
    have:=hrange _ q2 q3
    rw [←q1] at this
    exact R.dr _ _ _ hj this)
   have hother: ∀i2 o2 b' j,¬(i2=i∧o2=o)→B i2 o2 b' j→w'.cell? ⟨b',j,none⟩=w.cell? ⟨b',j,none⟩:=fun i2 o2 b' j hne h=>hW _ _ (fun ⟨q1,q2,q3⟩=>by
    subst q1
    exact hne (R.dj _ _ _ _ _ _ h (hrange _ q2 q3)))
   have hF: ∀b' j,F b' j→w'.cell? ⟨b',j,none⟩=w.cell? ⟨b',j,none⟩:=fun b' j h=>hW _ _ (fun ⟨q1,q2,q3⟩=>by
    subst q1
    exact (hsub.free _ _ (hrange _ q2 q3)).2.2 h)
   refine ⟨?_,fun q u2 row2 hl=> ?_⟩
   ·rw [h1]
    refine OwnR.toOwn (g:=g) (B:=B) ⟨R.le,fun j hj=> ?_,fun i2 x2 o2 a e1 e2=>(hrow _ (G.lt R.le e1 e2)).trans (R.cell i2 x2 o2 a e1 e2),fun i2 x2 o2 a e1 e2 e3=>(R.rep i2 x2 o2 a e1 e2 e3).stable fun b' j h=>⟨h,hF _ _ h⟩,
     fun i2 x2 o2 t2 zs e1 e2=> ?_,R.dj,R.dr,R.rg,R.iff⟩
    ·obtain ⟨⟨v1,k1⟩,k2,k3⟩:=R.cap j hj
     exact ⟨⟨v1,(hrow j hj).trans k1⟩,(hfro _ _).trans k2,k3⟩
    ·by_cases e:i2=i∧o2=o
     ·obtain ⟨rfl,rfl⟩:=e
      rw [h2] at e1
      cases e1
      rw [h3] at e2
      cases e2
      rw [hg]
      exact hO
     ·exact (R.own i2 x2 o2 t2 zs e1 e2).stable G (fun b' j h=>⟨h,hF _ _ h⟩) (fun b' j h=>⟨hother _ _ _ _ e h,hfro _ _⟩) (fun b' j _ h=>h)
   ·cases q with
    |nil=>exact hl
    |cons s q=>
     obtain ⟨i2,o2⟩:=s
     obtain ⟨b2,off2,c2,x2,t2,zs,v2,g1,g2,g3,g4,g5⟩:=hl
     rw [h1] at g1
     injection g1 with q1 _ q3
     injection q1 with q1
     injection q1 with q1 q4
     subst q1 q4 q3
     have hc:=(hrow _ (G.lt R.le g2 g3)).trans g4
     by_cases e:i2=i∧o2=o
     ·obtain ⟨rfl,rfl⟩:=e
      rw [h2] at g2
      cases g2
      rw [h3] at g3
      cases g3
      rw [h4] at g4
      cases g4
      exact ⟨b1,off1,c1,x,t',ys,v',h1,h2,h3,hc,hL q u2 row2 g5⟩
     ·have hg2:g i2 o2=v2:=Option.some.inj ((R.cell i2 x2 o2 _ g2 g3).symm.trans g4)
      have hsub2:=R.own i2 x2 o2 t2 zs g2 g3
      rw [hg2] at hsub2
      exact ⟨b1,off1,c1,x2,t2,zs,v2,h1,g2,g3,hc,g5.stable hsub2 G fun b' j h=>hother _ _ _ _ e h⟩
end
end Go.Proofs.Ytggibjbcbicpjaa.Ev
namespace Go.Proofs.Ytggibjbcbicpjaa.Ev
open Go
set_option linter.unusedVariables false
set_option linter.unusedSimpArgs false
section
variable {Ty:Nat→Type} (E:Tb Ty)
def eqP:Path→Path→Bool
 |[],[]=>true
 |(a,b) :: p,(c,d) :: q=>match Nat.beq a c && Nat.beq b d with
  |true=>eqP p q
  |false=>false
 |_,_=>false
theorem eqP_eq: ∀ {p q:Path},eqP p q=true→p=q
 |[],[],_=>rfl
 |[],_ :: _,h=>by cases h
 |_ :: _,[],h=>by cases h
 |(a,b) :: p,(c,d) :: q,h=>by
  unfold eqP at h
  split at h
  ·rename_i e
   rw [Bool.and_eq_true] at e
   rw [Nat.eq_of_beq_eq_true e.1,Nat.eq_of_beq_eq_true e.2,eqP_eq h]
  ·cases h
def newRow (ck:Path→Path→Bool) (r:Nat) (q:Path) (t:Nat) (ys:List (Ty t)):AV Ty→Option (List (Ty t))
 | .ext r' q' t' zs=>match Nat.beq r r' && ck q q' with
  |true=>castL t' t zs
  |false=>none
 | .ref r' q' vw _=>match Nat.beq r r' && ck q q' with
  |true=>some (view ys vw)
  |false=>none
 |_=>none
def placeG (ck:Path→Path→Bool) (hp:Heap Ty) (i:TI) (addr a:AV Ty):Option (EffR Ty):=match addr with
 | .ptr r p k o=>match root hp r with
  |some R=>match nav E R.m R.t R.xs p with
   |some row=>match cellOf E R.m row.t row.xs k o,Nat.beq i.sz 1 with
    | .sl true t ys,true=>match newRow ck r (p++[(k,o)]) t ys a with
     |some zs=>match upd E R.m R.t R.xs p (fun t' xs=>setCells E R.m t' xs k o [.sl true t zs]) with
      |some xs'=>some (.dead,hp.set r (some ⟨R.t,R.m,xs'⟩),[(r,p.length+1)])
      |none=>none
     |none=>none
    |_,_=>none
   |none=>none
  |none=>none
 |_=>none
def placeT (hp:Heap Ty) (i:TI) (addr a:AV Ty):Option (EffR Ty):=placeG E eqP hp i addr a
def placeS (hp:Heap Ty) (i:TI) (addr a:AV Ty):T (EffR Ty):=match addr,a with
 | .ptr r p k o, .ext r' q t zs=> .ite (p++[(k,o)]=q) inferInstance (T.opt (placeG E (fun _ _=>true) hp i (.ptr r p k o) (.ext r' q t zs))) .fail
 |_,_=> .fail
variable {E}
variable {X:Set2} {W0:World} {F F':Set2} {w w':World} {hp hp':Heap Ty} {vals vals':Nat→Value} {sets sets':Nat→Set2} {P:Program} {ρ:Operand→Value}
theorem place_eff (K:TbOk E P) (G:Good E) (I:Inv E X W0 F w hp vals sets) {t:Nat} {i:TI} (hi:E.ti t=some i) (hz:i.sz=1) {x y:Operand} {r k oo:Nat} {p:Path} (hx:VRep E F w hp vals (ρ x) (.ptr r p k oo)) {R:Root Ty} {row:Row Ty} (hR:root hp r=some R) (hnav:nav E R.m R.t R.xs p=some row)
  {t1:Nat} {ys1 zs:List (Ty t1)} (hcell:cellOf E R.m row.t row.xs k oo= .sl true t1 ys1) {xs':List (Ty R.t)} (hupd:upd E R.m R.t R.xs p (fun t xs=>setCells E R.m t xs k oo [.sl true t1 zs])=some xs')
  (hv: ∀u S',Loc E w R.m (vals r) R.t R.xs (p++[(k,oo)]) u ⟨t1,ys1⟩→Own E F w R.m u t1 ys1 S'→ ∃S1,Own E F w R.m (ρ y) t1 zs S1∧ ∀b j,S1 b j→S' b j∨((∀q Q,root hp q=some Q→ ¬sets q b j)∧(X b j∨W0.heap.size≤b)))
  (o:Oper) (ho:o.op= .store t x y):EffOk E P ρ o X W0 F w hp vals (.dead,hp.set r (some ⟨R.t,R.m,xs'⟩),[(r,p.length+1)]):=by
 obtain ⟨R2,b,off,c,row2,h1,h2,h3,hxv⟩:=hx.ptr'
 rw [hR] at h1
 cases h1
 have:row=row2:=Option.some.inj (hnav.symm.trans h2.nav)
 subst this
 obtain ⟨x0,hx0,ha0⟩:=cellOf_some h3 hcell (by simp)
 have hOr:=I.H.own r R hR
 obtain ⟨S',hrow,hsub,hrep⟩:=focus G p hOr h2
 rcases hrow.inv with ⟨⟨A,e⟩,e2,_⟩|⟨b',off',c',g,B,e,O⟩
 ·rw [e2] at h3;exact absurd h3 (by simp)
 ·injection e with q1 q2 q3
  injection q1 with q1
  injection q1 with q1 q4
  subst q1 q4 q3
  obtain ⟨S1,hS1,hS1s⟩:=hv (g k oo) (B k oo) (h2.snoc hx0 ha0 (O.cell k x0 oo _ hx0 ha0)) (O.own k x0 oo t1 ys1 hx0 ha0)
  obtain ⟨A,n,hyv⟩:=hS1.head
  have hcl:(ρ y).cells.toList=[ρ y]:=by rw [hyv];rfl
  have hone:oneC (ρ y)=true:=by rw [hyv];rfl
  have f:Fresh E F w R.m [ρ y] [.sl true t1 zs] (fun kk=>if kk=0 then S1 else fun _ _=>False):=by
   refine ⟨rfl,fun v hv=> ?_,fun kk v a e1 e2 e3=> ?_,fun kk v t' ys e1 e2=> ?_,fun kk kk' b j q1 q2=> ?_,fun kk b j q=> ?_⟩
   ·simp at hv;subst hv;exact hone
   ·cases kk with
    |zero=>cases e2;exact absurd trivial e3
    |succ kk=>simp at e2
   ·cases kk with
    |zero=>cases e1;cases e2;exact hS1
    |succ kk=>simp at e2
   ·by_cases c1:kk=0<;>by_cases c2:kk'=0
    ·rw [c1,c2]
    ·simp only [if_neg c2] at q2
    ·simp only [if_neg c1] at q1
    ·simp only [if_neg c1] at q1
   ·by_cases c1:kk=0
    ·subst c1;exact ⟨t1,zs,rfl⟩
    ·simp only [if_neg c1] at q
  have hS1r: ∀b' j,S1 b' j→S' b' j→B k oo b' j:=fun b' j h hs=>by
   rcases hS1s b' j h with h'|⟨h',_⟩
   ·exact h'
   ·exact absurd (hsub _ _ hs) (h' r R hR)
  have hoz:oo+1≤szOf E row.t:=by have:=get_lt ha0;rw [G.len] at this;exact this
  have hbase:k*szOf E row.t+oo<c*szOf E row.t:=lt_cells h3 O.le hoz
  obtain ⟨w',hrun,hW⟩:=storeCells_ok (P:=P) (b:=b) (base:=off+(k*szOf E row.t+oo)) [ρ y] 0 w (fun kk hk=>by
   have hk0:kk=0:=by simp at hk;exact hk
   subst hk0
   have:=O.cap (k*szOf E row.t+oo) hbase
   exact ⟨this.1,this.2.1⟩) f.one
  rw [Nat.add_zero] at hW
  have hin: ∀j,off+(k*szOf E row.t+oo)≤j→j<off+(k*szOf E row.t+oo)+[ρ y].length→S' b j:=by
   intro j j1 j2
   simp only [List.length_cons,List.length_nil] at j2
   have:=O.mem (j:=j-off) (by omega)
   rwa [show off+(j-off)=j by omega] at this
  have hfrow: ∃ys',setCells E R.m row.t row.xs k oo [.sl true t1 zs]=some ys':=by
   have: ∀(p:Path) (v:Value) (t:Nat) (xs xs':List (Ty t)) (u:Value) (rw_:Row Ty),Loc E w R.m v t xs p u rw_→upd E R.m t xs p (fun t xs=>setCells E R.m t xs k oo [.sl true t1 zs])=some xs'→ ∃ys',setCells E R.m rw_.t rw_.xs k oo [.sl true t1 zs]=some ys':=by
    intro p
    induction p with
    |nil=>intro v t xs xs' u rw_ hl hu;obtain ⟨rfl,rfl⟩:=hl;exact ⟨xs',hu⟩
    |cons s p ih=>
     intro v t xs xs' u rw_ hl hu
     obtain ⟨b,off,c,x,t',ys,v',_,g2,g3,_,g5⟩:=hl
     unfold upd at hu
     rw [cellOf_of g2 g3] at hu
     simp only at hu
     split at hu
     ·rename_i ys1 e1;exact ih _ _ _ _ _ _ g5 e1
     ·cases hu
   exact this p _ _ _ _ _ _ h2 hupd
  obtain ⟨ys',hys⟩:=hfrow
  obtain ⟨x1,hxs1,hx1⟩:=setCells_inv G hx0 hys
  subst hxs1
  have hput:=O.put G hx0 f hW hoz hx1 I.fb (fun kk b' j hb hs=>by
   by_cases c1:kk=0
   ·simp only [if_pos c1] at hb
    exact ⟨oo,Nat.le_refl _,by simp,hS1r _ _ hb hs⟩
   ·simp only [if_neg c1] at hb)
  have hown:=hput.toOwn
  rw [List.length_set] at hown
  have agF: ∀b' j,F b' j→w'.cell? ⟨b',j,none⟩=w.cell? ⟨b',j,none⟩:=hW.agreeF (fun j h1 h2 h=>((hrow.free b j (hin j h1 h2)).2.2 h))
  obtain ⟨hO',hlen'⟩:=hrep w' (row.xs.set k x1) _ _ xs' hown List.length_set
   (fun b' j hs=>⟨hW.out _ _ (fun ⟨e1,e2,e3⟩=>hs.2 (e1▸hin j e2 e3)),hW.fro _ _⟩) agF
   (fun b' j h3 hs=>by
    rcases h3 with h3|⟨i2,o2,h3⟩
    ·exact (O.iff _ _).2 (.inl h3)
    ·split at h3
     ·by_cases c1:o2-oo=0
      ·simp only [if_pos c1] at h3
       rcases hS1s _ _ h3 with h'|⟨h',_⟩
       ·exact O.sub h'
       ·exact absurd hs (h' r R hR)
      ·simp only [if_neg c1] at h3
     ·exact O.sub h3) hys hupd
  have I':=set_ok G I (Less.refl F sets hp) I.H (R':=⟨R.t,R.m,xs'⟩) hR hW (fun j h1 h2=>hsub _ _ (hin j h1 h2)) hO' (fun b' j hs=>by
   rcases hs with hs|hs
   ·exact .inl hs.1
   ·rcases hs with hs|⟨i2,o2,hs⟩
    ·exact .inl (hsub _ _ ((O.iff _ _).2 (.inl hs)))
    ·split at hs
     ·by_cases c1:o2-oo=0
      ·simp only [if_pos c1] at hs
       rcases hS1s _ _ hs with h'|h'
       ·exact .inl (hsub _ _ (O.sub h'))
       ·exact .inr (.inr h')
      ·simp only [if_neg c1] at hs
     ·exact .inl (hsub _ _ (O.sub hs)))
  refine ⟨.skip,undef,w',F,_,_,?_, .inr ⟨rfl,rfl⟩,I', .dead _,fun u av hu=> ?_,fun j hj=> .inr (by by_cases e:j=r<;>simp [e]),Grow.refl _ _ _,fun _ _ _ _ e=>by cases e⟩
  ·unfold execOp
   rw [ho]
   obtain ⟨j,hj1,hj2,_⟩:=K.info t i hi
   have hsz: ¬((ρ y).cells.size≠j.size):=by
    have:(ρ y).cells.size=1:=by rw [←Array.length_toList,hcl];rfl
    omega
   have hst:(Instr.storeAt t (ρ x) (ρ y)).run P w= .ok () w':=by
    rw [hxv]
    simp only [Instr.storeAt,Instr.sureAddr,storeVar,Pure.pure,Bind.bind,Sem.bind]
    rw [run_sizeOf hj1]
    rw [if_neg hsz,hcl]
    exact hrun
   simp only
   rw [Sem.run_bind,hst]
   rfl
  ·have agS: ∀i' Ri b' j,i'≠r→root hp i'=some Ri→sets i' b' j→w'.cell? ⟨b',j,none⟩=w.cell? ⟨b',j,none⟩:=by
    intro i' Ri b' j hne hi' hs
    refine hW.out _ _ (fun ⟨e1,e2,e3⟩=>hne (I.H.dj _ _ _ _ hi' hR b' j hs (e1▸hsub _ _ (hin j e2 e3))))
   have hlt:=root_lt hR
   refine survive (fun b j h=>⟨h,agF _ _ h⟩) (fun i' Ri q h1 hh=> ?_) hu
   by_cases e:i'=r
   ·subst e
    rw [hR] at h1
    cases h1
    refine ⟨⟨R.t,R.m,xs'⟩,by rw [root_set,if_pos rfl,if_pos hlt],fun u2 row2 hl=> ?_⟩
    simp only [if_true]
    refine Loc.upd (C:=fun b' j=>b'=b∧off+(k*szOf E row.t+oo)≤j∧j<off+(k*szOf E row.t+oo)+1) G p hOr h2
     (fun b' j hc=>⟨off,c,by rw [hc.1],by omega,by omega⟩)
     (fun b' j hs hc=>hW.out _ _ (fun h=>hc (by simpa using h))) hupd hys List.length_set q hl (.inl ?_)
    have:=hit_mem hh (n:=p.length+1) (by simp)
    omega
   ·exact survive_root (hp':=hp.set r (some ⟨R.t,R.m,xs'⟩)) (vals':=fun i=>if i=r then vals r else vals i) G I.H h1 (by rw [root_set,if_neg (fun h=>e h.symm)];exact h1) (if_neg e) (fun b' j s=>agS i' Ri b' j e h1 s)
theorem placeG_ok {ck:Path→Path→Bool} (K:TbOk E P) (G:Good E) (I:Inv E X W0 F w hp vals sets) {t:Nat} {i:TI} (hi:E.ti t=some i) {x y:Operand} {addr a:AV Ty} (hx:VRep E F w hp vals (ρ x) addr) (hy:VRep E F w hp vals (ρ y) a)
  (hy2: ∀r p t xs,a= .ext r p t xs→OvOk E X W0 F w hp vals sets (ρ y) r p t xs) (hck: ∀r p k oo,addr= .ptr r p k oo→ ∀q',(∃r' t zs,a= .ext r' q' t zs)∨(∃r' vw f,a= .ref r' q' vw f)→ck (p++[(k,oo)]) q'=true→p++[(k,oo)]=q') {res:EffR Ty} (h:placeG E ck hp i addr a=some res) (o:Oper) (ho:o.op= .store t x y):EffOk E P ρ o X W0 F w hp vals res:=by
 unfold placeG at h
 split at h
 ·rename_i r p k oo
  split at h
  ·rename_i R hR
   split at h
   ·rename_i row hnav
    split at h
    ·rename_i t1 ys1 hcell hz
     split at h
     ·rename_i zs hzs
      split at h
      ·rename_i xs' hupd
       cases h
       refine place_eff K G I hi (Nat.eq_of_beq_eq_true hz) hx hR hnav hcell hupd (fun u S' hl hO=> ?_) o ho
       unfold newRow at hzs
       split at hzs
       ·rename_i r' q' t' zs'
        split at hzs
        ·rename_i e
         rw [Bool.and_eq_true] at e
         have e1:=Nat.eq_of_beq_eq_true e.1
         have e2:=hck _ _ _ _ rfl _ (.inl ⟨_,_,_,rfl⟩) e.2
         subst e1
         obtain ⟨e3,rfl⟩:=castL_eq hzs
         subst e3
         obtain ⟨R2,u2,ys,S2,S1,k1,k2,k3,k4,k5,k6⟩:=hy2 _ _ _ _ rfl
         rw [hR] at k1
         cases k1
         rw [←e2] at k2
         obtain ⟨rfl,e4⟩:=hl.det k2
         cases e4
         refine ⟨S1,k5,fun b j hs=>(k6 b j hs).imp (fun hs=> ?_) id⟩
         exact k3.uniq hO b j hs
        ·cases hzs
       ·rename_i r' q' vw f
        split at hzs
        ·rename_i e
         rw [Bool.and_eq_true] at e
         have e1:=Nat.eq_of_beq_eq_true e.1
         have e2:=hck _ _ _ _ rfl _ (.inr ⟨_,_,_,rfl⟩) e.2
         subst e1
         cases hzs
         obtain ⟨R2,u2,row2,k1,k2,k3⟩:=hy.ref'
         rw [hR] at k1
         cases k1
         rw [←e2] at k2
         obtain ⟨rfl,e4⟩:=hl.det k2
         subst e4
         obtain ⟨S1,q1,q2⟩:=hO.view G k3
         exact ⟨S1,q1,fun b j hs=> .inl (q2 b j hs)⟩
        ·cases hzs
       ·cases hzs
      ·cases h
     ·cases h
    ·cases h
   ·cases h
  ·cases h
 ·cases h
theorem place_ok (K:TbOk E P) (G:Good E) (I:Inv E X W0 F w hp vals sets) {t:Nat} {i:TI} (hi:E.ti t=some i) {x y:Operand} {addr a:AV Ty} (hx:VRep E F w hp vals (ρ x) addr) (hy:VRep E F w hp vals (ρ y) a)
  (hy2: ∀r p t xs,a= .ext r p t xs→OvOk E X W0 F w hp vals sets (ρ y) r p t xs) {res:EffR Ty} (h:placeT E hp i addr a=some res) (o:Oper) (ho:o.op= .store t x y):EffOk E P ρ o X W0 F w hp vals res:=
 placeG_ok K G I hi hx hy hy2 (fun _ _ _ _ _ _ _ e=>eqP_eq e) h o ho
theorem placeS_ok (K:TbOk E P) (G:Good E) (I:Inv E X W0 F w hp vals sets) {t:Nat} {i:TI} (hi:E.ti t=some i) {x y:Operand} {addr a:AV Ty} (hx:VRep E F w hp vals (ρ x) addr) (hy:VRep E F w hp vals (ρ y) a)
  (hy2: ∀r p t xs,a= .ext r p t xs→OvOk E X W0 F w hp vals sets (ρ y) r p t xs) {res:EffR Ty} (h:(placeS E hp i addr a).val=some res) (o:Oper) (ho:o.op= .store t x y):EffOk E P ρ o X W0 F w hp vals res:=by
 unfold placeS at h
 split at h
 ·rename_i r p k oo r' q t' zs
  rcases ite_val h with ⟨e,h⟩|⟨_,h⟩
  ·refine placeG_ok (ck:=fun _ _=>true) K G I hi hx hy hy2 (fun r1 p1 k1 o1 e1 q' hq _=> ?_) (res:=res) ?_ o ho
   ·cases e1
    rcases hq with ⟨r2,t2,zs2,e2⟩|⟨r2,vw,f,e2⟩
    ·cases e2;exact e
    ·cases e2
   ·generalize placeG E (fun _ _=>true) hp i (AV.ptr r p k oo) (AV.ext r' q t' zs)=z at h⊢
    cases z with
    |none=>cases h
    |some z=>cases h;rfl
  ·cases h
 ·cases h
end
end Go.Proofs.Ytggibjbcbicpjaa.Ev
namespace Go.Proofs.Ytggibjbcbicpjaa.Ev
open Go
set_option linter.unusedVariables false
set_option linter.unusedSimpArgs false
section
variable {Ty:Nat→Type} (E:Tb Ty)
def appX (hp:Heap Ty) (ei:TI) (r:Nat) (p:Path) (y:AV Ty):T (EffR Ty):=match root hp r with
 |some R=>match nav E R.m R.t R.xs p with
  |some row=>match Nat.beq (szOf E row.t) ei.sz,srcA E R.m row.t hp y with
   |true,some (ys,hp1,ks)=>match root hp1 r with
    |some _=> .ite (row.xs.length+ys.length+1≤549755813888∧(row.xs.length+ys.length+1)*ei.bytes≤549755813888) inferInstance (.ret (.ext r p row.t (row.xs++ys),hp1,ks)) .fail
    |none=> .fail
   |_,_=> .fail
  |none=> .fail
 |none=> .fail
variable {E}
variable {X:Set2} {W0:World} {F F':Set2} {w w':World} {hp hp':Heap Ty} {vals vals':Nat→Value} {sets sets':Nat→Set2} {P:Program} {ρ:Operand→Value}
theorem appX_eff (K:TbOk E P) (G:Good E) (I:Inv E X W0 F w hp vals sets) {T1 T2 e:Nat} {i1 i2 ei:TI} (hi1:E.ti T1=some i1) (hd1:i1.d= .slice e) (hi2:E.ti T2=some i2) {e2:Nat} (hd2:i2.d= .slice e2) (hei:E.ti e=some ei) (hh:E.has e=true)
  {x y:Operand} {r:Nat} {p:Path} {fl:Bool} {ay:AV Ty} (hx:VRep E F w hp vals (ρ x) (.ref r p none fl)) (hy:VRep E F w hp vals (ρ y) ay) {res:EffR Ty} (h:(appX E hp ei r p ay).val=some res) (o:Oper) (c:Call) (ho:o.op= .call c) (hc:c.callee= .builtin .append)
  (ha:c.args.toList=[x,y]) (ht:c.argTypes.toList=[T1,T2]):EffOk E P ρ o X W0 F w hp vals res:=by
 obtain ⟨d1,u1,u2⟩:=K.und _ _ hi1
 rw [hd1] at u2
 have:=DOk.slice u2
 subst this
 obtain ⟨d2,u3,u4⟩:=K.und _ _ hi2
 rw [hd2] at u4
 have:=DOk.slice u4
 subst this
 obtain ⟨j0,hj1,hj2,hj3⟩:=K.info _ _ hei
 obtain ⟨hsz,j,z,hj4,hz1,hz2,_⟩:=K.zero _ _ hei hh
 have:j=j0:=Option.some.inj (hj4.symm.trans hj1)
 subst this
 unfold appX at h
 split at h
 ·rename_i R hR
  split at h
  ·rename_i row hnav
   split at h
   ·rename_i ys hp1 ks hbz hsrc
    split at h
    ·rename_i R1 hR1
     rcases ite_val h with ⟨⟨g1,g2⟩,h⟩|⟨_,h⟩
     ·cases h
      have hbz:=Nat.eq_of_beq_eq_true hbz
      obtain ⟨R2,u,row2,k1,k2,k3⟩:=hx.ref'
      rw [hR] at k1
      cases k1
      have:row=row2:=Option.some.inj (hnav.symm.trans k2.nav)
      subst this
      obtain ⟨k3,_⟩:=k3
      obtain ⟨vs,B,A,cc,e1,L,H1,hC,hf,hB⟩:=src_ok (P:=P) G I.H hy hsrc
      have hRR:R1=R:=Option.some.inj ((L.sub _ _ hR1).symm.trans hR)
      subst hRR
      have hOr:=I.H.own r R1 hR
      obtain ⟨S',hO,hsub,_⟩:=focus G p hOr k2
      have hl:Builtin.lenOf (ρ y)=Sem.pure ys.length:=by rw [e1];rfl
      have hBS: ∀i o b j,B i o b j→ ¬sets r b j:=by
       intro i o b j hb hs
       obtain ⟨r',R',q1,q2,q3⟩:=hB _ _ _ _ hb
       have:=I.H.dj _ _ _ _ q1 hR b j q3 hs
       subst this
       rw [hR1] at q2;cases q2
      have hBfree: ∀i o b j,B i o b j→(∀q Q,root hp1 q=some Q→ ¬sets q b j)∧(X b j∨W0.heap.size≤b):=by
       intro i o b j hb
       obtain ⟨r',R',q1,q2,q3⟩:=hB _ _ _ _ hb
       refine ⟨fun q Q hq hs=> ?_,I.lim _ _ _ _ q1 q3⟩
       have:=I.H.dj _ _ _ _ q1 (L.sub _ _ hq) b j q3 hs
       subst this
       rw [q2] at hq;cases hq
      obtain ⟨vs0,B0,A0,c0,e0,hC0,hf0,hB0⟩:=hO.cont (P:=P) G
      have surv: ∀(w2:World),(∀b j,F b j→w2.cell? ⟨b,j,none⟩=w.cell? ⟨b,j,none⟩)→(∀i Ri b j,i≠r→root hp i=some Ri→sets i b j→w2.cell? ⟨b,j,none⟩=w.cell? ⟨b,j,none⟩)→
        (∀(q:Path) (u2:Value) (row2:Row Ty),Loc E w R1.m (vals r) R1.t R1.xs q u2 row2→Loc E w2 R1.m (vals r) R1.t R1.xs q u2 row2)→ ∀u a,VRep E F w hp vals u a→VRep E F w2 hp1 vals u (killA ks a):=by
       intro w2 q1 q2 q3 u a hu
       refine survive (fun b j h=>⟨h,q1 _ _ h⟩) (fun i Ri p' h1 hh=> ?_) hu
       by_cases e:i=r
       ·subst e
        rw [hR] at h1
        cases h1
        exact ⟨R1,hR1,fun u row hl=>⟨row.xs,q3 _ _ _ hl,rfl⟩⟩
       ·rcases L.out _ _ h1 with h3|⟨_,h3⟩
        ·exact survive_root G I.H h1 h3 rfl (fun b j s=>q2 i Ri b j e h1 s)
        ·exact absurd (hit_mem hh h3) (by omega)
      by_cases hcap:row.xs.length+ys.length≤c0
      ·
       have place: ∃w' S3,(match A0 with|some a=>(storeCells (a.add (row.xs.length*j.size)) vs 0).run P w= .ok () w'|none=>w'=w)∧(∃b base,Wrote w w' b base vs∧ ∀j,base≤j→j<base+vs.length→sets r b j)∧
         Own E F w' R1.m (.slice A0 (row.xs.length+ys.length) c0) row.t (row.xs++ys) S3∧(∀b j,S3 b j→S' b j∨ ∃i o,B i o b j)∧Own E F w' R1.m (vals r) R1.t R1.xs (sets r)∧Own E F w' R1.m u row.t row.xs S'∧
         (∀(q:Path) (u2:Value) (row2:Row Ty),Loc E w R1.m (vals r) R1.t R1.xs q u2 row2→Loc E w' R1.m (vals r) R1.t R1.xs q u2 row2):=by
        rcases hO.inv with ⟨⟨A',e'⟩,e'',hS'⟩|⟨b,off,c',g,B',e',O⟩
        ·rw [e0] at e'
         injection e' with q1 q2 q3
         have hy0:ys.length=0:=by omega
         have hys:ys=[]:=List.length_eq_zero_iff.1 hy0
         subst hys
         have hvs:vs=[]:=by have:=hC.len;simp at this;exact this
         subst hvs
         have hn0:row.xs.length=0:=q2
         refine ⟨w,S',?_,⟨0,0, .nil _ _ _,fun j h1 h2=>by simp at h2⟩,?_,fun b j h=>absurd h (hS' b j),hOr,hO,fun q u2 row2 h=>h⟩
         ·cases A0 with
          |none=>rfl
          |some a=>rfl
         ·rw [e'',q3]
          exact .nil _ _ _ hS'
        ·rw [e0] at e'
         injection e' with q1 q2 q3
         subst q3
         have hroom: ∀k,k<vs.length→row.xs.length*szOf E row.t+k<c0*szOf E row.t:=by
          intro k hk
          rw [hC.len] at hk
          have:(row.xs.length+ys.length)*szOf E row.t≤c0*szOf E row.t:=Nat.mul_le_mul_right _ hcap
          rw [Nat.add_mul] at this
          omega
         obtain ⟨w',hrun,hW⟩:=storeCells_ok (P:=P) (b:=b) (base:=off+row.xs.length*szOf E row.t) vs 0 w (fun kk hk=>by
          have:=O.cap (row.xs.length*szOf E row.t+kk) (hroom kk hk)
          rw [show off+row.xs.length*szOf E row.t+(0+kk)=off+(row.xs.length*szOf E row.t+kk) by omega]
          exact ⟨this.1,this.2.1⟩) hC.one
         rw [Nat.add_zero] at hW
         obtain ⟨S3,hO3,hS3⟩:=O.extend G hC hcap hW (fun i o b' j hb hs=>hBS _ _ _ _ hb (hsub _ _ hs))
         have hWo: ∀b' j,¬(b'=b∧off+row.xs.length*szOf E row.t≤j∧j<off+c0*szOf E row.t)→w'.cell? ⟨b',j,none⟩=w.cell? ⟨b',j,none⟩:=fun b' j h=>hW.out _ _ (fun ⟨e1,e2,e3⟩=>h ⟨e1,e2,by
          have:=hroom (j-off-row.xs.length*szOf E row.t) (by omega)
          omega⟩)
         have hcp: ∀j,off+row.xs.length*szOf E row.t≤j→j<off+c0*szOf E row.t→ ∃v,w'.cell? ⟨b,j,none⟩=some v:=fun j j1 j2=>by
          by_cases e:j<off+row.xs.length*szOf E row.t+vs.length
          ·have:=hW.inn (j-(off+row.xs.length*szOf E row.t)) _ (List.getElem?_eq_getElem (by omega))
           rw [show off+row.xs.length*szOf E row.t+(j-(off+row.xs.length*szOf E row.t))=j by omega] at this
           exact ⟨_,this⟩
          ·obtain ⟨⟨v,hv⟩,_⟩:=O.cap (j-off) (by omega)
           rw [show off+(j-off)=j by omega] at hv
           exact ⟨v,(hW.out _ _ (fun h=>e h.2.2)).trans hv⟩
         have hue:u= .slice (some ⟨b,off,none⟩) row.xs.length c0:=by rw [e0,q1]
         have k2':=k2
         rw [hue] at k2'
         obtain ⟨s1,s2⟩:=Own.spare G hWo hW.fro hcp p hOr k2'
         obtain ⟨s3,_⟩:=Own.spare G hWo hW.fro hcp [] hO ⟨hue.symm,rfl⟩
         refine ⟨w',S3,?_,⟨b,_,hW,fun j h1 h2=>hsub _ _ ?_⟩,by rw [q1];exact hO3,hS3,s1,s3,s2⟩
         ·rw [q1]
          simp only [addr_add]
          rw [hj2,←hbz]
          exact hrun
         ·have h3:=hroom (j-off-row.xs.length*szOf E row.t) (by omega)
          have:=O.mem (j:=j-off) (by omega)
          rwa [show off+(j-off)=j by omega] at this
       obtain ⟨w',S3,p1,⟨b,base,hW,hin⟩,hO3,hS3,hOr',hO',hLoc⟩:=place
       have hrun:=append_in (P:=P) (w:=w) (w':=w') (T:=T1) (T2:=T2) (ty:=o.type) (n0:=row.xs.length) (n1:=ys.length) (cap:=c0) (base:=A0) (x:=ρ y) (vs:=vs) u1 u3 rfl hj1 hl hcap (by rw [hj2,←hbz];exact hf w.drawn) p1
       have agF: ∀b' j,F b' j→w'.cell? ⟨b',j,none⟩=w.cell? ⟨b',j,none⟩:=hW.agreeF (Q:=F) (fun j h1 h2 h=>((hOr.free _ _ (hin j h1 h2)).2.2 h))
       have agS: ∀i Ri b' j,i≠r→root hp i=some Ri→sets i b' j→w'.cell? ⟨b',j,none⟩=w.cell? ⟨b',j,none⟩:=fun i Ri b' j hne hi hs=>hW.out _ _ (fun ⟨q1,q2,q3⟩=>hne (I.H.dj _ _ _ _ hi hR b' j hs (q1▸hin j q2 q3)))
       have I':Inv E X W0 F w' hp1 vals sets:=by
        refine ⟨⟨fun i Ri hq=> ?_,H1.dj⟩,fun b j h=>by rw [hW.size];exact I.fb _ _ h,fun i Ri b j h s=>I.lim _ _ _ _ (L.sub _ _ h) s,I.keep.wrote hW (fun j h1 h2=>I.lim r R1 b j hR (hin j h1 h2))⟩
        by_cases e:i=r
        ·subst e
         rw [hR1] at hq
         cases hq
         exact hOr'
        ·exact (H1.own i Ri hq).stable G (fun b j h=>⟨h,agF _ _ h⟩) (fun b j s=>⟨agS i Ri b j e (L.sub _ _ hq) s,hW.fro _ _⟩) (fun b j _ h=>h)
       refine ⟨_,_,w',F,vals,sets,app_run ho hc ha ht (by rw [k3,e0];exact hrun), .inl rfl,I', .ext _ _ _ _ _,surv _ agF agS hLoc,fun j hj=> .inr rfl,Grow.refl _ _ _,fun r0 p0 t0 xs0 e=> ?_⟩
       cases e
       exact ⟨R1,u,row.xs,S',S3,hR1,hLoc _ _ _ k2,hO',hsub,hO3,fun b j h=>(hS3 b j h).imp id fun ⟨i,o,h⟩=>hBfree _ _ _ _ h⟩
      ·
       obtain ⟨cp,d,q1,q2⟩:=append_grow (P:=P) (w:=w) (T:=T1) (T2:=T2) (ty:=o.type) (n0:=row.xs.length) (n1:=ys.length) (cap:=c0) (base:=A0) (x:=ρ y) (vs0:=vs0) (vs:=vs) u1 u3 rfl hj1 hz1 hl hcap g1 (by rw [hj3];exact g2)
        (fun d=>by rw [hj2,←hbz,←e0];exact hf0 d) (fun d=>by rw [hj2,←hbz];exact hf d)
       have I2:=I.drew G d
       have hCC:=Cont.append G hC0 hC (fun i o i' o' b j h1 h2=>hBS _ _ _ _ h2 (hsub _ _ (hB0 _ _ _ _ h1)))
       have hOn:=alloc_own (w:= { w with drawn:=d }) (T:=e) (c:=cp) (cells:=vs0.toArray++vs.toArray++Builtin.zeroCells z.cells (cp-(row.xs.length+ys.length))) G (hCC.stable (w:=w) (w':= { w with drawn:=d }) G (fun b j h=>⟨h,rfl⟩) (fun i o b j h=>⟨rfl,rfl,fun h=>h⟩))
        (by simp only [Array.size_append,List.size_toArray,zeroCells_len,hC0.len,hC.len,hz2,←hbz];rw [←Nat.add_mul,←Nat.add_mul];congr 1;omega) (by simp only [List.length_append];omega) (fun k v e=>by
         have hk:=get_lt e
         rw [Array.getElem?_append_left (by simpa using hk)]
         have:(vs0.toArray++vs.toArray)=(vs0++vs).toArray:=by simp
         rw [this]
         simpa using e) I2.fb
       have agF: ∀b j,F b j→(({ w with drawn:=d }:World).alloc (.cells (vs0.toArray++vs.toArray++Builtin.zeroCells z.cells (cp-(row.xs.length+ys.length))) e)).cell? ⟨b,j,none⟩=w.cell? ⟨b,j,none⟩:=fun b j h=>cell_alloc_old (w:= { w with drawn:=d }) (I.fb _ _ h)
       have agS: ∀i Ri b j,root hp i=some Ri→sets i b j→(({ w with drawn:=d }:World).alloc (.cells (vs0.toArray++vs.toArray++Builtin.zeroCells z.cells (cp-(row.xs.length+ys.length))) e)).cell? ⟨b,j,none⟩=w.cell? ⟨b,j,none⟩∧(({ w with drawn:=d }:World).alloc (.cells (vs0.toArray++vs.toArray++Builtin.zeroCells z.cells (cp-(row.xs.length+ys.length))) e)).frozen? ⟨b,j,none⟩=w.frozen? ⟨b,j,none⟩:=fun i Ri b j h s=>⟨cell_alloc_old (w:= { w with drawn:=d }) (I.lt h s),frozen_alloc_old (w:= { w with drawn:=d }) (I.lt h s)⟩
       have I':Inv E X W0 F (({ w with drawn:=d }:World).alloc (.cells (vs0.toArray++vs.toArray++Builtin.zeroCells z.cells (cp-(row.xs.length+ys.length))) e)) hp1 vals sets:=by
        refine ⟨⟨fun i Ri h=> ?_,H1.dj⟩,fun b j h=> ?_,fun i Ri b j h s=>I.lim _ _ _ _ (L.sub _ _ h) s,I2.keep.alloc _⟩
        ·exact (H1.own i Ri h).stable G (fun b j h=>⟨h,agF _ _ h⟩) (fun b j s=>agS i Ri b j (L.sub _ _ h) s) (fun b j _ h=>h)
        ·rw [World.size_alloc]
         have:=I.fb _ _ h
         exact Nat.lt_succ_of_lt this
       refine ⟨_,_,_,F,vals,sets,app_run ho hc ha ht (by rw [k3,e0];exact q2), .inl rfl,I', .ext _ _ _ _ _,surv _ agF (fun i Ri b j _ hi hs=>(agS i Ri b j hi hs).1) (fun q u2 row2 hl=>hl.stable hOr G fun b j s=>(agS r R1 b j hR s).1),fun j hj=> .inr rfl,Grow.refl _ _ _,fun r0 p0 t0 xs0 e=> ?_⟩
       cases e
       rw [List.length_append] at hOn
       refine ⟨R1,u,row.xs,S',_,hR1,k2.stable hOr G fun b j s=>(agS r R1 b j hR s).1,hO.stable G (fun b j h=>⟨h,agF _ _ h⟩) (fun b j s=>agS r R1 b j hR (hsub _ _ s)) (fun b j _ h=>h),hsub,hOn,fun b j h=> ?_⟩
       rcases h with h|⟨i,o,h⟩
       ·right
        refine ⟨fun q Q hq hs=> ?_, .inr ?_⟩
        ·have h1:=I.lt (L.sub _ _ hq) hs
         have h2:b=w.heap.size:=h.1
         omega
        ·have:=I.keep.size
         have h2:b=w.heap.size:=h.1
         omega
       ·split at h
        ·exact .inl (hB0 _ _ _ _ h)
        ·exact .inr (hBfree _ _ _ _ h)
     ·cases h
    ·cases h
   ·cases h
  ·cases h
 ·cases h
end
end Go.Proofs.Ytggibjbcbicpjaa.Ev
namespace Go.Proofs.Ytggibjbcbicpjaa.Ev
open Go
set_option linter.unusedVariables false
set_option linter.unusedSimpArgs false
section
variable {Ty:Nat→Type} {E:Tb Ty}
theorem focusF (G:Good E) {F:Set2} {w:World} {m:Bool}: ∀(p:Path) {v:Value} {t:Nat} {xs:List (Ty t)} {S:Set2} {u:Value} {row:Row Ty},Own E F w m v t xs S→Loc E w m v t xs p u row→
  ∃S',Own E F w m u row.t row.xs S'∧(∀b j,S' b j→S b j)∧
   ∀(w':World) (F':Set2) (ys':List (Ty row.t)) (S3:Set2) (f:(t:Nat)→List (Ty t)→Option (List (Ty t))) (xs':List (Ty t)),Own E F' w' m u row.t ys' S3→ys'.length=row.xs.length→
    Agree (fun b j=>S b j∧ ¬S' b j) w w'→(∀b j,F b j→F' b j∧w'.cell? ⟨b,j,none⟩=w.cell? ⟨b,j,none⟩)→(∀b j,S b j→ ¬S' b j→F' b j→F b j)→(∀b j,S3 b j→S b j→S' b j)→
    f row.t row.xs=some ys'→upd E m t xs p f=some xs'→Own E F' w' m v t xs' (fun b j=>(S b j∧ ¬S' b j)∨S3 b j)∧xs'.length=xs.length
 |[],v,t,xs,S,u,row,ho,⟨hu,hr⟩=>by
  subst hu hr
  refine ⟨S,ho,fun _ _ h=>h,fun w' F' ys' S3 f xs' h1 h2 h3 h4 h8 h5 h6 h7=> ?_⟩
  have e:ys'=xs':=Option.some.inj (h6.symm.trans h7)
  subst e
  exact ⟨h1.congr fun b j=>⟨fun h=>h.elim (fun h=>absurd h.1 h.2) id, .inr⟩,h2⟩
 |(i,o) :: p,v,t,xs,S,u,row,ho,⟨b,off,c,x,t',ys,v',hv,hx,ha,hc,hl⟩=>by
  rcases ho.inv with ⟨_,hnil,_⟩|⟨b0,off0,c0,g,B,hv0,R⟩
  ·rw [hnil] at hx;simp at hx
  ·rw [hv] at hv0
   injection hv0 with e1 e2 e3
   injection e1 with e1
   injection e1 with e1 e4
   subst e1 e4 e3
   have hg:g i o=v':=Option.some.inj ((R.cell i x o _ hx ha).symm.trans hc)
   have hsub:=R.own i x o t' ys hx ha
   rw [hg] at hsub
   obtain ⟨S',hS1,hS2,hS3⟩:=focusF G p hsub hl
   refine ⟨S',hS1,fun b' j' h=>R.sub (hS2 _ _ h),fun w' F' ys' S3 f xs' k1 k2 k3 k4 k8 k5 k6 k7=> ?_⟩
   have hrow: ∀j,j<c*szOf E t→ ¬S' b (off+j):=fun j hj h=>R.dr i o j hj (hS2 _ _ h)
   unfold upd at k7
   rw [cellOf_of hx ha] at k7
   simp only at k7
   split at k7
   ·rename_i ys1 e1
    obtain ⟨x',hxs,hx'⟩:=setCell_inv G hx k7
    obtain ⟨j1,j2⟩:=hS3 w' F' ys' S3 f ys1 k1 k2 (fun b' j' h=>k3 b' j' ⟨R.sub h.1,h.2⟩) k4 (fun b' j' h h'=>k8 b' j' (R.sub h) h') (fun b' j' h3 h=>k5 b' j' h3 (R.sub h)) k6 e1
    subst hxs
    have hi:i<xs.length:=get_lt hx
    have hoo:o<((E.cod t).enc m x).length:=get_lt ha
    have hget: ∀(i2:Nat) x2 (o2:Nat) a2,(xs.set i x')[i2]? =some x2→((E.cod t).enc m x2)[o2]? =some a2→
      (i2=i∧o2=o∧a2= .sl true t' ys1)∨(¬(i2=i∧o2=o)∧ ∃x3,xs[i2]? =some x3∧((E.cod t).enc m x3)[o2]? =some a2):=by
     intro i2 x2 o2 a2 q1 q2
     rw [List.getElem?_set] at q1
     by_cases e:i=i2
     ·subst e
      rw [if_pos rfl,if_pos hi] at q1
      cases q1
      rw [hx',List.getElem?_set] at q2
      by_cases e:o=o2
      ·subst e
       rw [if_pos rfl,if_pos hoo] at q2
       cases q2
       exact .inl ⟨rfl,rfl,rfl⟩
      ·rw [if_neg e] at q2
       exact .inr ⟨fun h=>e h.2.symm,x,hx,q2⟩
     ·rw [if_neg e] at q1
      exact .inr ⟨fun h=>e h.1.symm,x2,q1,q2⟩
    have hself:(xs.set i x')[i]? =some x'∧((E.cod t).enc m x')[o]? =some (.sl true t' ys1):=by
     constructor
     ·rw [List.getElem?_set,if_pos rfl,if_pos hi]
     ·rw [hx',List.getElem?_set,if_pos rfl,if_pos hoo]
    refine ⟨?_,List.length_set⟩
    rw [hv,show xs.length=(xs.set i x').length from List.length_set.symm]
    refine OwnR.toOwn (g:=g) (B:=fun i2 o2 b' j'=>(i2=i∧o2=o∧((B i o b' j'∧ ¬S' b' j')∨S3 b' j'))∨(¬(i2=i∧o2=o)∧B i2 o2 b' j')) ⟨?_,?_,?_,?_,?_,?_,?_,?_,?_⟩
    ·rw [List.length_set];exact R.le
    ·intro j hj
     obtain ⟨⟨v1,h1⟩,h2,h3⟩:=R.cap j hj
     obtain ⟨q1,q2⟩:=k3 b (off+j) ⟨R.mem hj,hrow j hj⟩
     exact ⟨⟨v1,q1.trans h1⟩,q2.trans h2,fun h=>h3 (k8 _ _ (R.mem hj) (hrow j hj) h)⟩
    ·intro i2 x2 o2 a2 q1 q2
     rcases hget i2 x2 o2 a2 q1 q2 with ⟨rfl,rfl,rfl⟩|⟨_,x3,q3,q4⟩
     ·have hj:=G.lt R.le hx ha
      rw [(k3 b _ ⟨R.mem hj,hrow _ hj⟩).1]
      exact R.cell _ _ _ _ hx ha
     ·have hj:=G.lt R.le q3 q4
      rw [(k3 b _ ⟨R.mem hj,hrow _ hj⟩).1]
      exact R.cell _ _ _ _ q3 q4
    ·intro i2 x2 o2 a2 q1 q2 q5
     rcases hget i2 x2 o2 a2 q1 q2 with ⟨rfl,rfl,rfl⟩|⟨_,x3,q3,q4⟩
     ·exact absurd trivial q5
     ·exact (R.rep _ _ _ _ q3 q4 q5).stable fun b' j' h=>k4 _ _ h
    ·intro i2 x2 o2 t2 zs q1 q2
     rcases hget i2 x2 o2 _ q1 q2 with ⟨rfl,rfl,e⟩|⟨hne,x3,q3,q4⟩
     ·cases e
      rw [hg]
      exact j1.congr fun b' j'=>⟨fun h=>h.elim (fun h=>h.2.2) (fun h=>absurd ⟨rfl,rfl⟩ h.1),fun h=> .inl ⟨rfl,rfl,h⟩⟩
     ·refine ((R.own _ _ _ _ _ q3 q4).stable G (fun b' j' h=>k4 _ _ h) (fun b' j' h=>k3 b' j' ⟨R.sub h,fun h'=>hne (R.dj _ _ _ _ _ _ h (hS2 _ _ h'))⟩) (fun b' j' h h'=>k8 b' j' (R.sub h) (fun h'=>hne (R.dj _ _ _ _ _ _ h (hS2 _ _ h'))) h')).congr fun b' j'=>⟨fun h=>h.elim (fun h=>absurd ⟨h.1,h.2.1⟩ hne) (fun h=>h.2),fun h=> .inr ⟨hne,h⟩⟩
    ·intro i1 o1 i2 o2 b' j' q1 q2
     rcases q1 with ⟨rfl,rfl,q1⟩|⟨n1,q1⟩<;>rcases q2 with ⟨rfl,rfl,q2⟩|⟨n2,q2⟩
     ·exact ⟨rfl,rfl⟩
     ·rcases q1 with q1|q1
      ·exact R.dj _ _ _ _ _ _ q1.1 q2
      ·exact R.dj _ _ _ _ _ _ (hS2 _ _ (k5 _ _ q1 (R.sub q2))) q2
     ·rcases q2 with q2|q2
      ·exact R.dj _ _ _ _ _ _ q1 q2.1
      ·exact R.dj _ _ _ _ _ _ q1 (hS2 _ _ (k5 _ _ q2 (R.sub q1)))
     ·exact R.dj _ _ _ _ _ _ q1 q2
    ·intro i2 o2 j hj q
     rcases q with ⟨rfl,rfl,q|q⟩|⟨_,q⟩
     ·exact R.dr _ _ j hj q.1
     ·exact hrow j hj (k5 _ _ q (R.mem hj))
     ·exact R.dr _ _ j hj q
    ·intro i2 o2 b' j' q
     rcases q with ⟨rfl,rfl,_⟩|⟨hne,q⟩
     ·exact ⟨x',t',ys1,hself.1,hself.2⟩
     ·obtain ⟨x3,t3,zs,q3,q4⟩:=R.rg _ _ _ _ q
      by_cases e:i2=i
      ·subst e
       rw [hx] at q3
       cases q3
       refine ⟨x',t3,zs,hself.1,?_⟩
       rw [hx',List.getElem?_set,if_neg (fun e=>hne ⟨rfl,e.symm⟩)]
       exact q4
      ·refine ⟨x3,t3,zs,?_,q4⟩
       rw [List.getElem?_set,if_neg (fun h=>e h.symm)]
       exact q3
    ·intro b' j'
     constructor
     ·rintro (⟨h1,h2⟩|h)
      ·rcases (R.iff b' j').1 h1 with h|⟨i2,o2,h⟩
       ·exact .inl h
       ·by_cases e:i2=i∧o2=o
        ·obtain ⟨rfl,rfl⟩:=e
         exact .inr ⟨i2,o2, .inl ⟨rfl,rfl, .inl ⟨h,h2⟩⟩⟩
        ·exact .inr ⟨i2,o2, .inr ⟨e,h⟩⟩
      ·exact .inr ⟨i,o, .inl ⟨rfl,rfl, .inr h⟩⟩
     ·rintro (h|⟨i2,o2,⟨rfl,rfl,h|h⟩|⟨hne,h⟩⟩)
      ·obtain ⟨rfl,h1,h2⟩:=h
       have:=hrow (j'-off) (by omega)
       rw [show off+(j'-off)=j' by omega] at this
       exact .inl ⟨(R.iff _ _).2 (.inl ⟨rfl,h1,h2⟩),this⟩
      ·exact .inl ⟨R.sub h.1,h.2⟩
      ·exact .inr h
      ·exact .inl ⟨R.sub h,fun h'=>hne (R.dj _ _ _ _ _ _ h (hS2 _ _ h'))⟩
   ·cases k7
variable {F F':Set2} {w w':World}
theorem elem_focus (G:Good E) {m:Bool} {b off c t:Nat} {xs:List (Ty t)} {S:Set2} {k:Nat} {x:Ty t} (h:Own E F w m (.slice (some ⟨b,off,none⟩) xs.length c) t xs S) (hx:xs[k]? =some x):
  ∃S1,Own E F w m (.slice (some ⟨b,off+k*szOf E t,none⟩) 1 1) t [x] S1∧(∀b' j,S1 b' j→S b' j)∧
   ∀(w':World) (F':Set2) (x':Ty t) (S3:Set2),Own E F' w' m (.slice (some ⟨b,off+k*szOf E t,none⟩) 1 1) t [x'] S3→Agree (fun b' j=>S b' j∧ ¬S1 b' j) w w'→
    (∀b' j,F b' j→F' b' j∧w'.cell? ⟨b',j,none⟩=w.cell? ⟨b',j,none⟩)→(∀b' j,S b' j→ ¬S1 b' j→F' b' j→F b' j)→(∀b' j,S3 b' j→S b' j→S1 b' j)→
    Own E F' w' m (.slice (some ⟨b,off,none⟩) xs.length c) t (xs.set k x') (fun b' j=>(S b' j∧ ¬S1 b' j)∨S3 b' j):=by
 rcases h.inv with ⟨⟨A,e⟩,e2,_⟩|⟨b0,off0,c0,g,B,e,R⟩
 ·rw [e2] at hx;simp at hx
 injection e with q1 _ q3
 injection q1 with q1
 injection q1 with q1 q4
 subst q1 q4 q3
 have hk:k<xs.length:=get_lt hx
 have kc:k<c:=Nat.lt_of_lt_of_le hk R.le
 have kz:(k+1)*szOf E t≤c*szOf E t:=Nat.mul_le_mul_right _ kc
 rw [Nat.succ_mul] at kz
 have one: ∀(i:Nat) y,[x][i]? =some y→i=0∧y=x:=fun i y e=>by
  cases i with
  |zero=>cases e;exact ⟨rfl,rfl⟩
  |succ i=>simp at e
 have hlt: ∀(o:Nat) a,((E.cod t).enc m x)[o]? =some a→o<szOf E t:=fun o a e=>by have:=get_lt e;rw [G.len] at this;exact this
 have add: ∀o,off+k*szOf E t+(0*szOf E t+o)=off+(k*szOf E t+o):=fun o=>by omega
 refine ⟨fun b' j=>(b'=b∧off+k*szOf E t≤j∧j<off+k*szOf E t+szOf E t)∨ ∃o,B k o b' j,?_,?_,?_⟩
 ·refine OwnR.toOwn (xs:=[x]) (g:=fun _ o=>g k o) (B:=fun i o b' j=>i=0∧B k o b' j) ⟨by simp,fun j hj=> ?_,fun i y o a e1 e2=> ?_,fun i y o a e1 e2 e3=> ?_,fun i y o t' ys e1 e2=> ?_,fun i o i' o' b' j' h1 h2=> ?_,fun i o j hj h=> ?_,fun i o b' j' h=> ?_,fun b' j'=> ?_⟩
  ·have:=R.cap (k*szOf E t+j) (by omega)
   rwa [←Nat.add_assoc] at this
  ·obtain ⟨rfl,rfl⟩:=one i y e1
   rw [add]
   exact R.cell k y o a hx e2
  ·obtain ⟨rfl,rfl⟩:=one i y e1
   exact R.rep k y o a hx e2 e3
  ·obtain ⟨rfl,rfl⟩:=one i y e1
   exact (R.own k y o t' ys hx e2).congr fun b' j=>⟨fun h=>h.2,fun h=>⟨rfl,h⟩⟩
  ·have:=R.dj _ _ _ _ _ _ h1.2 h2.2
   exact ⟨h1.1.trans h2.1.symm,this.2⟩
  ·refine R.dr k o (k*szOf E t+j) (by omega) ?_
   rw [←Nat.add_assoc]
   exact h.2
  ·obtain ⟨rfl,h⟩:=h
   obtain ⟨y,t',ys,e1,e2⟩:=R.rg _ _ _ _ h
   rw [hx] at e1
   cases e1
   exact ⟨x,t',ys,rfl,e2⟩
  ·constructor
   ·rintro (⟨h1,h2,h3⟩|⟨o,h⟩)
    ·exact .inl ⟨h1,h2,by omega⟩
    ·exact .inr ⟨0,o,rfl,h⟩
   ·rintro (⟨h1,h2,h3⟩|⟨i,o,_,h⟩)
    ·exact .inl ⟨h1,h2,by omega⟩
    ·exact .inr ⟨o,h⟩
 ·rintro b' j (⟨rfl,h2,h3⟩|⟨o,h⟩)
  ·exact (R.iff _ _).2 (.inl ⟨rfl,by omega,by omega⟩)
  ·exact R.sub h
 ·intro w' F' x' S3 h3 hA hF hd hs
  rcases h3.inv with ⟨_,e2,_⟩|⟨b3,off3,c3,g3,B3,e,R3⟩
  ·cases e2
  injection e with q1 _ q3
  injection q1 with q1
  injection q1 with q1 q4
  subst q1 q4 q3
  have self:(xs.set k x')[k]? =some x':=by rw [List.getElem?_set,if_pos rfl,if_pos hk]
  have oth: ∀i,i≠k→(xs.set k x')[i]? =xs[i]? :=fun i hi=>by rw [List.getElem?_set,if_neg (Ne.symm hi)]
  have notS1: ∀i y o a,i≠k→xs[i]? =some y→((E.cod t).enc m y)[o]? =some a→ ¬((b=b∧off+k*szOf E t≤off+(i*szOf E t+o)∧off+(i*szOf E t+o)<off+k*szOf E t+szOf E t)∨ ∃o',B k o' b (off+(i*szOf E t+o))):=by
   rintro i y o a hi e1 e2 (⟨_,h1,h2⟩|⟨o',h⟩)
   ·have ho:o<szOf E t:=by have:=get_lt e2;rw [G.len] at this;exact this
    rcases Nat.lt_or_gt_of_ne hi with hl|hl
    ·have:=Nat.mul_le_mul_right (szOf E t) hl
     rw [Nat.succ_mul] at this
     omega
    ·have:=Nat.mul_le_mul_right (szOf E t) hl
     rw [Nat.succ_mul] at this
     omega
   ·exact R.dr k o' _ (G.lt R.le e1 e2) h
  have rowS3: ∀j,j<c*szOf E t→S3 b (off+j)→k*szOf E t≤j∧j<k*szOf E t+szOf E t:=fun j hj h=>by
   rcases hs _ _ h (R.mem hj) with ⟨_,h1,h2⟩|⟨o,h⟩
   ·omega
   ·exact absurd h (R.dr k o j hj)
  rw [show xs.length=(xs.set k x').length from List.length_set.symm]
  refine OwnR.toOwn (g:=fun i o=>if i=k then g3 0 o else g i o) (B:=fun i o b' j'=>if i=k then B3 0 o b' j' else B i o b' j') ⟨by rw [List.length_set];exact R.le,fun j hj=> ?_,fun i y o a e1 e2=> ?_,fun i y o a e1 e2 e3=> ?_,fun i y o t' ys e1 e2=> ?_,fun i o i' o' b' j' h1 h2=> ?_,fun i o j hj h=> ?_,fun i o b' j' h=> ?_,fun b' j'=> ?_⟩
  ·by_cases c1:k*szOf E t≤j∧j<k*szOf E t+szOf E t
   ·have:=R3.cap (j-k*szOf E t) (by omega)
    rwa [show off+k*szOf E t+(j-k*szOf E t)=off+j by omega] at this
   ·obtain ⟨⟨v1,h1⟩,h2,h4⟩:=R.cap j hj
    have hn: ¬((b=b∧off+k*szOf E t≤off+j∧off+j<off+k*szOf E t+szOf E t)∨ ∃o',B k o' b (off+j)):=by
     rintro (⟨_,h1,h2⟩|⟨o',h⟩)
     ·exact c1 ⟨by omega,by omega⟩
     ·exact R.dr k o' j hj h
    obtain ⟨q1,q2⟩:=hA _ _ ⟨R.mem hj,hn⟩
    exact ⟨⟨v1,q1.trans h1⟩,q2.trans h2,fun h=>h4 (hd _ _ (R.mem hj) hn h)⟩
  ·by_cases c1:i=k
   ·subst c1
    rw [self] at e1
    cases e1
    have:=R3.cell 0 x' o a rfl e2
    rw [if_pos rfl,←add]
    exact this
   ·rw [oth i c1] at e1
    rw [if_neg c1,(hA _ _ ⟨R.mem (G.lt R.le e1 e2),notS1 i y o a c1 e1 e2⟩).1]
    exact R.cell i y o a e1 e2
  ·by_cases c1:i=k
   ·subst c1
    rw [self] at e1
    cases e1
    rw [if_pos rfl]
    exact R3.rep 0 x' o a rfl e2 e3
   ·rw [oth i c1] at e1
    rw [if_neg c1]
    exact (R.rep i y o a e1 e2 e3).stable fun b' j' h=>hF _ _ h
  ·by_cases c1:i=k
   ·subst c1
    rw [self] at e1
    cases e1
    simp only [if_pos]
    exact R3.own 0 x' o t' ys rfl e2
   ·rw [oth i c1] at e1
    simp only [if_neg c1]
    have hn: ∀b' j',B i o b' j'→ ¬((b'=b∧off+k*szOf E t≤j'∧j'<off+k*szOf E t+szOf E t)∨ ∃o',B k o' b' j'):=by
     rintro b' j' hb (⟨eb,h1,h2⟩|⟨o',h'⟩)
     ·rw [eb] at hb
      refine R.dr i o (j'-off) (by omega) ?_
      rw [show off+(j'-off)=j' by omega]
      exact hb
     ·exact c1 (R.dj _ _ _ _ _ _ hb h').1
    exact (R.own i y o t' ys e1 e2).stable G (fun b' j' h=>hF _ _ h) (fun b' j' h=>hA _ _ ⟨R.sub h,hn _ _ h⟩) (fun b' j' h h'=>hd _ _ (R.sub h) (hn _ _ h) h')
  ·by_cases c1:i=k<;>by_cases c2:i'=k
   ·rw [if_pos c1] at h1
    rw [if_pos c2] at h2
    exact ⟨c1.trans c2.symm,(R3.dj _ _ _ _ _ _ h1 h2).2⟩
   ·rw [if_pos c1] at h1
    rw [if_neg c2] at h2
    rcases hs _ _ (R3.sub h1) (R.sub h2) with ⟨rfl,h3,h4⟩|⟨o2,h3⟩
    ·refine (R.dr i' o' (j'-off) (by omega) ?_).elim
     rw [show off+(j'-off)=j' by omega]
     exact h2
    ·exact absurd (R.dj _ _ _ _ _ _ h2 h3).1 c2
   ·rw [if_neg c1] at h1
    rw [if_pos c2] at h2
    rcases hs _ _ (R3.sub h2) (R.sub h1) with ⟨rfl,h3,h4⟩|⟨o2,h3⟩
    ·refine (R.dr i o (j'-off) (by omega) ?_).elim
     rw [show off+(j'-off)=j' by omega]
     exact h1
    ·exact absurd (R.dj _ _ _ _ _ _ h1 h3).1 c1
   ·rw [if_neg c1] at h1
    rw [if_neg c2] at h2
    exact R.dj _ _ _ _ _ _ h1 h2
  ·by_cases c1:i=k
   ·rw [if_pos c1] at h
    obtain ⟨h1,h2⟩:=rowS3 j hj (R3.sub h)
    refine R3.dr 0 o (j-k*szOf E t) (by omega) ?_
    rw [show off+k*szOf E t+(j-k*szOf E t)=off+j by omega]
    exact h
   ·rw [if_neg c1] at h
    exact R.dr _ _ j hj h
  ·by_cases c1:i=k
   ·subst c1
    rw [if_pos rfl] at h
    obtain ⟨y,t',ys,e1,e2⟩:=R3.rg _ _ _ _ h
    cases e1
    exact ⟨x',t',ys,self,e2⟩
   ·rw [if_neg c1] at h
    obtain ⟨y,t',ys,e1,e2⟩:=R.rg _ _ _ _ h
    exact ⟨y,t',ys,by rw [oth i c1];exact e1,e2⟩
  ·constructor
   ·rintro (⟨h1,h2⟩|h)
    ·rcases (R.iff b' j').1 h1 with h|⟨i,o,h⟩
     ·exact .inl h
     ·by_cases c1:i=k
      ·subst c1;exact absurd (.inr ⟨o,h⟩) h2
      ·exact .inr ⟨i,o,by rw [if_neg c1];exact h⟩
    ·rcases (R3.iff b' j').1 h with ⟨h1,h2,h4⟩|⟨i,o,h⟩
     ·exact .inl ⟨h1,by omega,by omega⟩
     ·obtain ⟨y,t',ys,e1,e2⟩:=R3.rg _ _ _ _ h
      obtain rfl:i=0:=by
       cases i with
       |zero=>rfl
       |succ i=>simp at e1
      exact .inr ⟨k,o,by rw [if_pos rfl];exact h⟩
   ·rintro (⟨rfl,h1,h2⟩|⟨i,o,h⟩)
    ·by_cases c1:off+k*szOf E t≤j'∧j'<off+k*szOf E t+szOf E t
     ·exact .inr ((R3.iff _ _).2 (.inl ⟨rfl,c1.1,by omega⟩))
     ·refine .inl ⟨(R.iff _ _).2 (.inl ⟨rfl,h1,h2⟩),?_⟩
      rintro (⟨_,h3,h4⟩|⟨o',h3⟩)
      ·exact c1 ⟨h3,h4⟩
      ·refine R.dr k o' (j'-off) (by omega) ?_
       rw [show off+(j'-off)=j' by omega]
       exact h3
    ·by_cases c1:i=k
     ·rw [if_pos c1] at h
      exact .inr (R3.sub h)
     ·rw [if_neg c1] at h
      refine .inl ⟨R.sub h,?_⟩
      rintro (⟨eb,h3,h4⟩|⟨o',h3⟩)
      ·rw [eb] at h
       refine R.dr i o (j'-off) (by omega) ?_
       rw [show off+(j'-off)=j' by omega]
       exact h
      ·exact c1 (R.dj _ _ _ _ _ _ h h3).1
theorem Loc.keep (G:Good E) {m:Bool} {f:(t:Nat)→List (Ty t)→Option (List (Ty t))}: ∀(p:Path) {v:Value} {t:Nat} {xs:List (Ty t)} {u:Value} {row:Row Ty} {S S':Set2} {xs':List (Ty t)} {ys':List (Ty row.t)},
  Own E F w m v t xs S→Loc E w m v t xs p u row→Own E F w m u row.t row.xs S'→(∀b j,S b j→ ¬S' b j→w'.cell? ⟨b,j,none⟩=w.cell? ⟨b,j,none⟩)→Ev.upd E m t xs p f=some xs'→f row.t row.xs=some ys'→ys'.length=row.xs.length→
  ∀(q:Path) {u2:Value} {row2:Row Ty},Loc E w m v t xs q u2 row2→q.length≤p.length→ ∃zs',Loc E w' m v t xs' q u2 ⟨row2.t,zs'⟩∧zs'.length=row2.xs.length
 |[],v,t,xs,u,row,S,S',xs',ys',ho,⟨hu,hr⟩,hO,hA,hup,hf,hl,q,u2,row2,hq,hle=>by
  subst hu hr
  have e:ys'=xs':=Option.some.inj (hf.symm.trans hup)
  subst e
  cases q with
  |nil=>
   obtain ⟨rfl,rfl⟩:=hq
   exact ⟨ys',⟨rfl,rfl⟩,hl⟩
  |cons a q=>simp at hle
 |(i,o) :: p,v,t,xs,u,row,S,S',xs',ys',ho,⟨b,off,c,x,t',ys,v',hv,hx,ha,hc,hloc⟩,hO,hA,hup,hf,hl,q,u2,row2,hq,hle=>by
  rcases ho.inv with ⟨_,hnil,_⟩|⟨b0,off0,c0,g,B,hv0,R⟩
  ·rw [hnil] at hx;simp at hx
  rw [hv] at hv0
  injection hv0 with e1 e2 e3
  injection e1 with e1
  injection e1 with e1 e4
  subst e1 e4 e3
  have hg:g i o=v':=Option.some.inj ((R.cell i x o _ hx ha).symm.trans hc)
  have hsub:=R.own i x o t' ys hx ha
  rw [hg] at hsub
  obtain ⟨S2,hS1,hS2,_⟩:=focusF G p hsub hloc
  have sub: ∀b' j',S' b' j'→B i o b' j':=fun b' j' h=>hS2 _ _ (hO.uniq hS1 _ _ h)
  unfold Ev.upd at hup
  rw [cellOf_of hx ha] at hup
  simp only at hup
  split at hup
  ·rename_i ys1 e1
   obtain ⟨x',hxs,hx'⟩:=setCell_inv G hx hup
   subst hxs
   have hi:i<xs.length:=get_lt hx
   have hoo:o<((E.cod t).enc m x).length:=get_lt ha
   cases q with
   |nil=>
    obtain ⟨rfl,rfl⟩:=hq
    exact ⟨xs.set i x',⟨rfl,rfl⟩,List.length_set⟩
   |cons a q=>
    obtain ⟨i2,o2⟩:=a
    obtain ⟨b2,off2,c2,x2,t2,ys2,v2,hv2,hx2,ha2,hc2,hl2⟩:=hq
    rw [hv] at hv2
    injection hv2 with e5 e6 e7
    injection e5 with e5
    injection e5 with e5 e8
    subst e5 e8 e7
    have hj:=G.lt R.le hx2 ha2
    have hnot: ¬S' b (off+(i2*szOf E t+o2)):=fun h=>R.dr i o _ hj (sub _ _ h)
    have hcell:w'.cell? ⟨b,off+(i2*szOf E t+o2),none⟩=some v2:=(hA _ _ (R.mem hj) hnot).trans hc2
    have hlen:xs.length=(xs.set i x').length:=List.length_set.symm
    by_cases e:i2=i∧o2=o
    ·obtain ⟨rfl,rfl⟩:=e
     rw [hx] at hx2
     cases hx2
     rw [ha] at ha2
     cases ha2
     rw [hc] at hc2
     cases hc2
     obtain ⟨zs',k1,k2⟩:=Loc.keep G p hsub hloc hO (fun b' j' h h'=>hA b' j' (R.sub h) h') e1 hf hl q hl2 (by simp at hle;exact hle)
     refine ⟨zs',⟨b,off,c,x',t',ys1,v',by rw [←hlen];exact hv,by rw [List.getElem?_set,if_pos rfl,if_pos hi],by rw [hx',List.getElem?_set,if_pos rfl,if_pos hoo],hcell,k1⟩,k2⟩
    ·have hn: ∀b' j',B i2 o2 b' j'→ ¬S' b' j':=fun b' j' h h'=>e (R.dj _ _ _ _ _ _ h (sub _ _ h'))
     have hg2:g i2 o2=v2:=Option.some.inj ((R.cell i2 x2 o2 _ hx2 ha2).symm.trans hc2)
     have ho2:=R.own i2 x2 o2 t2 ys2 hx2 ha2
     rw [hg2] at ho2
     have hl3:=hl2.stable ho2 G fun b' j' h=>hA b' j' (R.sub h) (hn _ _ h)
     by_cases ei:i2=i
     ·subst ei
      rw [hx] at hx2
      cases hx2
      refine ⟨row2.xs,⟨b,off,c,x',t2,ys2,v2,by rw [←hlen];exact hv,by rw [List.getElem?_set,if_pos rfl,if_pos hi],?_,hcell,hl3⟩,rfl⟩
      rw [hx',List.getElem?_set,if_neg fun e'=>e ⟨rfl,e'.symm⟩]
      exact ha2
     ·refine ⟨row2.xs,⟨b,off,c,x2,t2,ys2,v2,by rw [←hlen];exact hv,?_,ha2,hcell,hl3⟩,rfl⟩
      rw [List.getElem?_set,if_neg fun e'=>ei e'.symm]
      exact hx2
  ·cases hup
end
end Go.Proofs.Ytggibjbcbicpjaa.Ev
namespace Go.Proofs.Ytggibjbcbicpjaa.Ev
open Go
set_option linter.unusedVariables false
set_option linter.unusedSimpArgs false
section
variable {Ty:Nat→Type} (E:Tb Ty)
def inArg:List Bool→List (AV Ty)→Nat→Option (Nat×Nat×Path×Nat)
 |true :: mu,a :: l,k=>match a with
  | .ptr r (q :: p) i 0=>some (k,r,q :: p,i)
  |_=>inArg mu l (k+1)
 |false :: mu,_ :: l,k=>inArg mu l (k+1)
 |_,_,_=>none
def setE (k t:Nat) (x:Ty t) (t':Nat) (xs:List (Ty t')):Option (List (Ty t')):=match castL t t' [x] with
 |some [y]=>some (xs.set k y)
 |_=>none
def sameB:Bool→Bool→Bool
 |true,true=>true
 |false,false=>true
 |_,_=>false
def callI (hp:Heap Ty) (mu:List Bool) (S:List (AV Ty)→T (AV Ty×List (AV Ty))) (args:List (AV Ty)):T (EffR Ty):=match inArg mu args 0 with
 |none=>callT E hp mu S args
 |some (k,r,p,i)=>match root hp r with
  |some R=>match nav E R.m R.t R.xs p with
   |some row=>(callT E (hp.set r none++[some ⟨row.t,R.m,[row.xs.getD i (E.cod row.t).zero]⟩]) mu S ((args.map (killA [(r,0)])).set k (.ptr hp.length [] 0 0))).bind fun res=>
    match root res.2.1 hp.length with
    |some ⟨t',m',[x']⟩=>match Nat.beq t' row.t && sameB m' R.m,upd E R.m R.t R.xs p (setE i t' x') with
     |true,some xs'=> .ret (killA [(hp.length,0),(r,0)] res.1,(res.2.1.set hp.length none).set r (some ⟨R.t,R.m,xs'⟩),(r,p.length+1) :: res.2.2)
     |_,_=> .fail
    |_=> .fail
   |none=> .fail
  |none=> .fail
variable {E}
variable {X:Set2} {W0:World} {F F':Set2} {w w':World} {hp hp':Heap Ty} {vals vals':Nat→Value} {sets sets':Nat→Set2} {P:Program}
theorem inArg_spec: ∀ {mu:List Bool} {l:List (AV Ty)} {k0 k r i:Nat} {p:Path},inArg mu l k0=some (k,r,p,i)→k0≤k∧l[k-k0]? =some (.ptr r p i 0)
 |[],l,k0,k,r,i,p,h=>by unfold inArg at h;cases h
 |true :: mu,[],k0,k,r,i,p,h=>by unfold inArg at h;cases h
 |false :: mu,[],k0,k,r,i,p,h=>by unfold inArg at h;cases h
 |true :: mu,a :: l,k0,k,r,i,p,h=>by
  unfold inArg at h
  split at h
  ·cases h
   exact ⟨Nat.le_refl _,by simp⟩
  ·obtain ⟨h1,h2⟩:=inArg_spec h
   exact ⟨by omega,by rw [show k-k0=(k-(k0+1))+1 by omega];simpa using h2⟩
 |false :: mu,a :: l,k0,k,r,i,p,h=>by
  unfold inArg at h
  obtain ⟨h1,h2⟩:=inArg_spec h
  exact ⟨by omega,by rw [show k-k0=(k-(k0+1))+1 by omega];simpa using h2⟩
theorem root_gone {r r':Nat}:root (hp.set r none) r'=if r=r' then none else root hp r':=by
 rw [root_set]
 split
 ·simp
 ·rfl
theorem Less.gone (F:Set2) (sets:Nat→Set2) (r:Nat):Less F F sets hp (hp.set r none) [(r,0)]:=by
 refine ⟨fun r' R h=> ?_,fun r' R h=> ?_,fun _ _ h=>h,fun _ _ h=> .inl h,by simp⟩
 ·rw [root_gone] at h
  split at h
  ·cases h
  ·exact h
 ·rw [root_gone]
  split
  ·rename_i e;subst e;exact .inr ⟨rfl,by simp⟩
  ·exact .inl h
theorem HRel.gone (H:HRel E F w hp vals sets) {r:Nat}:HRel E F w (hp.set r none) vals sets:=by
 have sub: ∀q Q,root (hp.set r none) q=some Q→root hp q=some Q:=fun q Q h=>by
  rw [root_gone] at h
  split at h
  ·cases h
  ·exact h
 exact ⟨fun q Q h=>H.own q Q (sub q Q h),fun q q' Q Q' h h'=>H.dj q q' Q Q' (sub _ _ h) (sub _ _ h')⟩
theorem Less.kill' (G:Good E) (I:Inv E X W0 F w hp vals sets) {hp1:Heap Ty} {ks:List (Nat×Nat)} (L:Less F F' sets hp hp1 ks) {u:Value} {a:AV Ty} (h:VRep E F w hp vals u a):VRep E F' w hp1 vals u (killA ks a):=by
 refine survive (fun b j h=>⟨L.inc _ _ h,rfl⟩) (fun r R' p h1 h2=> ?_) h
 rcases L.out _ _ h1 with h3|⟨_,h3⟩
 ·exact survive_root G I.H h1 h3 rfl (fun b j s=>rfl)
 ·exact absurd (hit_mem h2 h3) (by omega)
theorem sameB_eq {a b:Bool} (h:sameB a b=true):a=b:=by cases a<;>cases b<;>first|rfl|cases h
theorem hit_cons {k:Nat×Nat} {ks:List (Nat×Nat)} {r:Nat} {p:Path} (h:hit (k :: ks) r p=false):hit ks r p=false∧ ¬(k.1=r∧k.2≤p.length):=by
 unfold hit at h
 split at h
 ·cases h
 ·rename_i e
  refine ⟨h,fun ⟨e1,e2⟩=> ?_⟩
  subst e1
  rw [Nat.beq_refl,Bool.true_and] at e
  rw [Nat.ble_eq_true_of_le e2] at e
  cases e
theorem kill_ref {ks:List (Nat×Nat)} {r:Nat} {p:Path} {vw:Option (Nat×Nat)} {f:Bool} (h:hit ks r p=false):killA ks (.ref r p vw f:AV Ty)= .ref r p vw f:=by
 cases ks with
 |nil=>rfl
 |cons k l=>
  show kill0 (k :: l) (.ref r p vw f)=_
  simp only [kill0,h]
theorem kill_ptr {ks:List (Nat×Nat)} {r:Nat} {p:Path} {i o:Nat} (h:hit ks r p=false):killA ks (.ptr r p i o:AV Ty)= .ptr r p i o:=by
 cases ks with
 |nil=>rfl
 |cons k l=>
  show kill0 (k :: l) (.ptr r p i o)=_
  simp only [kill0,h]
theorem callI_ok (G:Good E) (I:Inv E X W0 F w hp vals sets) {mu:List Bool} {S:List (AV Ty)→T (AV Ty×List (AV Ty))} {f:FuncId} {args:List (AV Ty)} {vs:List Value} (hlen:vs.length=args.length) (hv: ∀(i:Nat) v a,vs[i]? =some v→args[i]? =some a→VRep E F w hp vals v a)
  (hS: ∀as r outs,(S as).val=some (r,outs)→CallOk E P f as r outs) {res:EffR Ty} (h:(callI E hp mu S args).val=some res):
  Calls P f vs.toArray w fun e w'=> ∃(v:Value) (F':Set2) (vals':Nat→Value) (sets':Nat→Set2),e= .returned v∧Inv E X W0 F' w' res.2.1 vals' sets'∧VRep E F' w' res.2.1 vals' v res.1∧
   (∀u a,VRep E F w hp vals u a→VRep E F' w' res.2.1 vals' u (killA res.2.2 a))∧(∀j,j<hp.length→vals' j=vals j)∧Grow X W0 F F':=by
 unfold callI at h
 split at h
 ·exact call_ok G I hlen hv hS h
 rename_i k r p i hin
 split at h
 case h_2=>cases h
 rename_i R hR
 split at h
 case h_2=>cases h
 rename_i row hnav
 rw [T.val_bind] at h
 obtain ⟨rs,h1,h2⟩:=h
 split at h2
 case h_2=>cases h2
 rename_i t' m' x' hroot
 split at h2
 case h_2=>cases h2
 rename_i xs' hb hupd
 cases h2
 rw [Bool.and_eq_true] at hb
 obtain ⟨hb1,hb2⟩:=hb
 have hb1:=Nat.eq_of_beq_eq_true hb1
 have hb2:=sameB_eq hb2
 have hk:=(inArg_spec hin).2
 simp only [Nat.sub_zero] at hk
 have hkl:k<vs.length:=by rw [hlen];exact get_lt hk
 have hpk:=hv k _ _ (List.getElem?_eq_getElem hkl) hk
 obtain ⟨R2,b,off,c,row2,a1,a2,a3,a4⟩:=hpk.ptr'
 rw [hR] at a1
 cases a1
 have hrow:row=row2:=Option.some.inj (hnav.symm.trans a2.nav)
 subst hrow
 have hx:row.xs[i]? =some row.xs[i]:=List.getElem?_eq_getElem a3
 rw [getD_of hx] at h1
 generalize row.xs[i]=x at hx h1
 have hOr:=I.H.own r R hR
 obtain ⟨S',o1,o2,o3⟩:=focusF G p hOr a2
 obtain ⟨S1,e1,e2,e3⟩:=elem_focus G o1 hx
 have hlr:=root_lt hR
 have hl0:(hp.set r none).length=hp.length:=List.length_set
 have I0:Inv E X W0 F w (hp.set r none) vals sets:=⟨I.H.gone,I.fb,fun q Q b j h=>I.lim q Q b j ((Less.gone F sets r).sub _ _ h),I.keep⟩
 obtain ⟨I1,M⟩:=push_same I0 (R:=⟨row.t,R.m,[x]⟩) e1 (fun q Q b' j hq s s1=>by
  rw [root_gone] at hq
  split at hq
  ·cases hq
  ·rename_i hne
   exact hne (I.H.dj _ _ _ _ hq hR b' j s (o2 _ _ (e2 _ _ s1))).symm) (fun b' j s=>I.lim r R _ _ hR (o2 _ _ (e2 _ _ s)))
 rw [hl0] at I1 M
 obtain ⟨hp1,hhp1⟩: ∃h,h=hp.set r none++[some ⟨row.t,R.m,[x]⟩]:=⟨_,rfl⟩
 rw [←hhp1] at I1 M h1
 obtain ⟨vals1,hvals1⟩: ∃f:Nat→Value,f=fun q=>if q=hp.length then .slice (some ⟨b,off+i*szOf E row.t,none⟩) 1 1 else vals q:=⟨_,rfl⟩
 obtain ⟨sets1,hsets1⟩: ∃f:Nat→Set2,f=fun q=>if q=hp.length then S1 else sets q:=⟨_,rfl⟩
 rw [←hvals1,←hsets1] at I1 M
 have vn:vals1 hp.length= .slice (some ⟨b,off+i*szOf E row.t,none⟩) 1 1:=by rw [hvals1];simp
 have vo: ∀q,q≠hp.length→vals1 q=vals q:=fun q hq=>by rw [hvals1];simp [hq]
 have sn:sets1 hp.length=S1:=by rw [hsets1];simp
 have so: ∀q,q≠hp.length→sets1 q=sets q:=fun q hq=>by rw [hsets1];simp [hq]
 have rt: ∀q,root hp1 q=if q=hp.length then some ⟨row.t,R.m,[x]⟩ else if r=q then none else root hp q:=fun q=>by rw [hhp1,root_push,hl0,root_gone]
 have rn:root hp1 hp.length=some ⟨row.t,R.m,[x]⟩:=by rw [rt,if_pos rfl]
 have l1:hp1.length=hp.length+1:=by rw [hhp1];simp
 clear hhp1 hvals1 hsets1
 have I2:Inv E (fun b' j=> ∃q Q,root hp1 q=some Q∧sets1 q b' j) w F w hp1 vals1 sets1:=⟨I1.H,I1.fb,fun q Q b' j h s=> .inl ⟨q,Q,h,s⟩, .refl _ _⟩
 have old: ∀q Q,q≠hp.length→root hp1 q=some Q→q≠r∧root hp q=some Q:=fun q Q hq h=>by
  rw [rt,if_neg hq] at h
  split at h
  ·cases h
  ·rename_i hne;exact ⟨fun e=>hne e.symm,h⟩
 have xin: ∀b' j,(∃q Q,root hp1 q=some Q∧sets1 q b' j)→X b' j∨W0.heap.size≤b':=fun b' j ⟨q,Q,h,s⟩=>I1.lim q Q b' j h s
 have xr: ∀b' j,sets r b' j→ ¬S1 b' j→ ¬ ∃q Q,root hp1 q=some Q∧sets1 q b' j:=fun b' j s n ⟨q,Q,h,s'⟩=>by
  by_cases hq:q=hp.length
  ·subst hq;rw [sn] at s';exact n s'
  ·obtain ⟨k1,k2⟩:=old q Q hq h
   rw [so q hq] at s'
   exact k1 (I.H.dj _ _ _ _ k2 hR b' j s' s)
 have xF: ∀b' j,F b' j→ ¬ ∃q Q,root hp1 q=some Q∧sets1 q b' j:=fun b' j hF ⟨q,Q,h,s⟩=>((I1.H.own q Q h).free b' j s).2.2 hF
 have rlt: ∀b' j,sets r b' j→b'<w.heap.size:=fun b' j s=>I.lt hR s
 have transf: ∀u a,VRep E F w hp vals u a→VRep E F w hp1 vals1 u (killA [(r,0)] a):=fun u a h=>((Less.gone F sets r).kill' G I h).more M
 have hlen':vs.length=((args.map (killA [(r,0)])).set k (.ptr hp.length [] 0 0)).length:=by simp [hlen]
 have hptr:VRep E F w hp1 vals1 (.pointer (some ⟨b,off+i*szOf E row.t,none⟩)) (.ptr hp.length [] 0 0):=by
  have:=VRep.ptr (E:=E) (F:=F) (w:=w) (hp:=hp1) (vals:=vals1) hp.length [] 0 0 ⟨row.t,R.m,[x]⟩ b (off+i*szOf E row.t) 1 ⟨row.t,[x]⟩ rn ⟨vn.symm,rfl⟩ (by simp)
  simpa using this
 have hv': ∀(j:Nat) v a,vs[j]? =some v→((args.map (killA [(r,0)])).set k (.ptr hp.length [] 0 0))[j]? =some a→VRep E F w hp1 vals1 v a:=fun j v a q1 q2=>by
  rw [List.getElem?_set] at q2
  split at q2
  ·rename_i e
   subst e
   split at q2
   ·cases q2
    rw [List.getElem?_eq_getElem hkl] at q1
    cases q1
    rw [a4]
    exact hptr
   ·cases q2
  ·rw [List.getElem?_map] at q2
   cases e:args[j]? with
   |none=>rw [e] at q2;cases q2
   |some y=>rw [e] at q2;cases q2;exact transf _ _ (hv j v y q1 e)
 refine Calls.mono (call_ok G I2 hlen' hv' hS h1) fun e w' he=> ?_
 obtain ⟨v,F2,vals2,sets2,rfl,J,jv,js,jl,jg⟩:=he
 have kc: ∀b' j,b'<w.heap.size→(¬ ∃q Q,root hp1 q=some Q∧sets1 q b' j)→w'.cell? ⟨b',j,none⟩=w.cell? ⟨b',j,none⟩∧w'.frozen? ⟨b',j,none⟩=w.frozen? ⟨b',j,none⟩:=fun b' j hb hn=>J.keep.cell b' j hb hn
 have fk: ∀b' j,F b' j→F2 b' j∧w'.cell? ⟨b',j,none⟩=w.cell? ⟨b',j,none⟩:=fun b' j h=>⟨jg.1 _ _ h,(kc b' j (I.fb _ _ h) (xF _ _ h)).1⟩
 have fd: ∀b' j,sets r b' j→ ¬S1 b' j→F2 b' j→F b' j:=fun b' j s n h=>by
  rcases jg.2 _ _ h with h|h|h
  ·exact h
  ·exact absurd h (xr _ _ s n)
  ·have:=rlt _ _ s;omega
 have own3:=J.H.own hp.length _ hroot
 have v2n:vals2 hp.length= .slice (some ⟨b,off+i*szOf E row.t,none⟩) 1 1:=by rw [jl _ (by omega),vn]
 have s3: ∀b' j,sets2 hp.length b' j→sets r b' j→S1 b' j:=fun b' j h s=>by
  rcases J.lim _ _ _ _ hroot h with h|h
  ·exact Classical.byContradiction fun n=>xr _ _ s n h
  ·have:=rlt _ _ s;omega
 subst hb1 hb2
 simp only at own3
 rw [v2n] at own3
 have row3:=e3 w' F2 x' (sets2 hp.length) own3 (fun b' j s=>kc _ _ (rlt _ _ (o2 _ _ s.1)) (xr _ _ (o2 _ _ s.1) s.2)) fk (fun b' j s n h=>fd _ _ (o2 _ _ s) n h) (fun b' j h s=>s3 _ _ h (o2 _ _ s))
 have hf:setE i row.t x' row.t row.xs=some (row.xs.set i x'):=by
  unfold setE castL
  rw [dif_pos rfl]
 have hz:(row.xs.set i x').length=row.xs.length:=List.length_set
 obtain ⟨r3,r4⟩:=o3 w' F2 (row.xs.set i x') _ (setE i row.t x') xs' row3 hz (fun b' j s=>kc _ _ (rlt _ _ s.1) (xr _ _ s.1 fun h=>s.2 (e2 _ _ h))) fk (fun b' j s n h=>fd _ _ s (fun h'=>n (e2 _ _ h')) h) (fun b' j h s=>by
  rcases h with h|h
  ·exact h.1
  ·exact e2 _ _ (s3 _ _ h s)) hf hupd
 have lr2:r<rs.2.1.length:=by
  have:=root_lt hroot
  omega
 have hl2:(rs.2.1.set hp.length none).length=rs.2.1.length:=List.length_set
 have rt3: ∀q,root ((rs.2.1.set hp.length none).set r (some ⟨R.t,R.m,xs'⟩)) q=if r=q then some ⟨R.t,R.m,xs'⟩ else if hp.length=q then none else root rs.2.1 q:=fun q=>by
  rw [root_set,hl2,root_gone]
  by_cases e:r=q
  ·rw [if_pos e,if_pos e,if_pos lr2]
  ·rw [if_neg e,if_neg e]
 have S4r: ∀b' j,((sets r b' j∧ ¬S' b' j)∨((S' b' j∧ ¬S1 b' j)∨sets2 hp.length b' j))→(sets r b' j∧ ¬S1 b' j)∨sets2 hp.length b' j:=fun b' j h=>by
  rcases h with h|h|h
  ·exact .inl ⟨h.1,fun h'=>h.2 (e2 _ _ h')⟩
  ·exact .inl ⟨o2 _ _ h.1,h.2⟩
  ·exact .inr h
 have far: ∀q Q b' j,r≠q→hp.length≠q→root rs.2.1 q=some Q→sets2 q b' j→((sets r b' j∧ ¬S1 b' j)∨sets2 hp.length b' j)→False:=fun q Q b' j n1 n2 hq s h=>by
  rcases h with ⟨h,n⟩|h
  ·rcases J.lim _ _ _ _ hq s with h'|h'
   ·exact xr _ _ h n h'
   ·have:=rlt _ _ h;omega
  ·exact n2 (J.H.dj _ _ _ _ hroot hq b' j h s)
 have K':Inv E X W0 F2 w' ((rs.2.1.set hp.length none).set r (some ⟨R.t,R.m,xs'⟩)) vals2 (fun q=>if q=r then (fun b' j=>(sets r b' j∧ ¬S' b' j)∨((S' b' j∧ ¬S1 b' j)∨sets2 hp.length b' j)) else sets2 q):=by
  refine ⟨⟨fun q Q h=> ?_,fun q q' Q Q' h h' b' j s s'=> ?_⟩,J.fb,fun q Q b' j h s=> ?_,I.keep.trans J.keep xin⟩
  ·rw [rt3] at h
   split at h
   ·rename_i e
    subst e
    cases h
    simp only [if_true]
    rw [jl r (by omega),vo r (by omega)]
    exact r3
   ·rename_i hne
    split at h
    ·cases h
    ·rw [if_neg (Ne.symm hne)]
     exact J.H.own q Q h
  ·rw [rt3] at h h'
   by_cases c1:r=q<;>by_cases c2:r=q'
   ·exact c1.symm.trans c2
   ·rw [if_neg c2] at h'
    split at h'
    ·cases h'
    ·rename_i c3
     simp only [if_pos c1.symm] at s
     rw [if_neg (Ne.symm c2)] at s'
     exact (far _ _ _ _ c2 c3 h' s' (S4r _ _ s)).elim
   ·rw [if_neg c1] at h
    split at h
    ·cases h
    ·rename_i c3
     simp only [if_pos c2.symm] at s'
     rw [if_neg (Ne.symm c1)] at s
     exact (far _ _ _ _ c1 c3 h s (S4r _ _ s')).elim
   ·rw [if_neg c1] at h
    rw [if_neg c2] at h'
    split at h
    ·cases h
    split at h'
    ·cases h'
    rw [if_neg (Ne.symm c1)] at s
    rw [if_neg (Ne.symm c2)] at s'
    exact J.H.dj _ _ _ _ h h' b' j s s'
  ·have toX: ∀q Q,root rs.2.1 q=some Q→sets2 q b' j→X b' j∨W0.heap.size≤b':=fun q Q h s=>by
    rcases J.lim _ _ _ _ h s with h'|h'
    ·exact xin _ _ h'
    ·have:=I.keep.size;exact .inr (by omega)
   rw [rt3] at h
   split at h
   ·rename_i e
    subst e
    simp only [if_true] at s
    rcases S4r _ _ s with s|s
    ·exact I.lim r R _ _ hR s.1
    ·exact toX _ _ hroot s
   ·rename_i hne
    split at h
    ·cases h
    ·rw [if_neg (Ne.symm hne)] at s
     exact toX _ _ h s
 have toRef: ∀u q pt vw fl,q≠r→q≠hp.length→VRep E F2 w' rs.2.1 vals2 u (.ref q pt vw fl)→VRep E F2 w' ((rs.2.1.set hp.length none).set r (some ⟨R.t,R.m,xs'⟩)) vals2 u (.ref q pt vw fl):=fun u q pt vw fl n1 n2 h=>by
  obtain ⟨Q,u2,row2,h1,h2,h3⟩:=h.ref'
  exact .ref q pt vw fl u Q u2 row2 (by rw [rt3,if_neg (Ne.symm n1),if_neg (Ne.symm n2)];exact h1) h2 h3
 have toPtr: ∀u q pt i' o',q≠r→q≠hp.length→VRep E F2 w' rs.2.1 vals2 u (.ptr q pt i' o')→VRep E F2 w' ((rs.2.1.set hp.length none).set r (some ⟨R.t,R.m,xs'⟩)) vals2 u (.ptr q pt i' o'):=fun u q pt i' o' n1 n2 h=>by
  obtain ⟨Q,b2,off2,c2,row2,h1,h2,h3,rfl⟩:=h.ptr'
  exact .ptr q pt i' o' Q b2 off2 c2 row2 (by rw [rt3,if_neg (Ne.symm n1),if_neg (Ne.symm n2)];exact h1) h2 h3
 refine ⟨v,F2,vals2,_,rfl,K',?_,fun u a hu=> ?_,fun j hj=>by rw [jl j (by omega),vo j (by omega)],⟨jg.1,fun b' j h=> ?_⟩⟩
 ·show VRep E F2 w' ((rs.2.1.set hp.length none).set r (some ⟨R.t,R.m,xs'⟩)) vals2 v (killA [(hp.length,0),(r,0)] rs.1)
  refine VRep.kill (fun b j h=>⟨h,rfl⟩) (fun v a h=>h) (fun v q pt vw fl hh h=> ?_) (fun v q pt i' o' hh h=> ?_) jv
  ·obtain ⟨h5,h6⟩:=hit_cons hh
   obtain ⟨_,h7⟩:=hit_cons h5
   exact toRef _ _ _ _ _ (fun e=>h7 ⟨e.symm,Nat.zero_le _⟩) (fun e=>h6 ⟨e.symm,Nat.zero_le _⟩) h
  ·obtain ⟨h5,h6⟩:=hit_cons hh
   obtain ⟨_,h7⟩:=hit_cons h5
   exact toPtr _ _ _ _ _ (fun e=>h7 ⟨e.symm,Nat.zero_le _⟩) (fun e=>h6 ⟨e.symm,Nat.zero_le _⟩) h
 ·have lt2: ∀q Q,root hp q=some Q→q≠hp.length:=fun q Q h=>by have:=root_lt h;omega
  have nk: ∀(q:Nat) (pt:Path),q≠r→hit [(r,0)] q pt=false:=fun q pt n=>by
   have:Nat.beq r q=false:=by
    cases e:Nat.beq r q with
    |false=>rfl
    |true=>exact absurd (Nat.eq_of_beq_eq_true e).symm n
   simp [hit,this]
  have stay: ∀(pt:Path) u2 row2,¬p.length+1≤pt.length→Loc E w R.m (vals r) R.t R.xs pt u2 row2→ ∃zs',Loc E w' R.m (vals2 r) R.t xs' pt u2 ⟨row2.t,zs'⟩∧zs'.length=row2.xs.length:=fun pt u2 row2 hn hl=>by
   rw [jl r (by omega),vo r (by omega)]
   exact Loc.keep G p hOr a2 o1 (fun b' j s n=>(kc _ _ (rlt _ _ s) (xr _ _ s fun h=>n (e2 _ _ h))).1) hupd hf hz pt hl (by omega)
  show VRep E F2 w' ((rs.2.1.set hp.length none).set r (some ⟨R.t,R.m,xs'⟩)) vals2 u (killA ((r,p.length+1) :: rs.2.2) a)
  refine VRep.kill fk (fun v a h=>h.stable fk) (fun v q pt vw fl hh h=> ?_) (fun v q pt i' o' hh h=> ?_) hu
  ·obtain ⟨h5,h6⟩:=hit_cons hh
   obtain ⟨Q,u2,row2,g1,g2,g3⟩:=h.ref'
   by_cases e:q=r
   ·subst e
    rw [hR] at g1
    cases g1
    obtain ⟨zs',k1,k2⟩:=stay pt u2 row2 (fun e=>h6 ⟨rfl,e⟩) g2
    exact .ref q pt vw fl v ⟨R.t,R.m,xs'⟩ u2 ⟨row2.t,zs'⟩ (by rw [rt3,if_pos rfl]) k1 (by rw [k2];exact g3)
   ·have t1:=transf _ _ h
    rw [kill_ref (nk q pt e)] at t1
    have t2:=js _ _ t1
    rw [kill_ref h5] at t2
    exact toRef _ _ _ _ _ e (lt2 _ _ g1) t2
  ·obtain ⟨h5,h6⟩:=hit_cons hh
   obtain ⟨Q,b2,off2,c2,row2,g1,g2,g3,rfl⟩:=h.ptr'
   by_cases e:q=r
   ·subst e
    rw [hR] at g1
    cases g1
    obtain ⟨zs',k1,k2⟩:=stay pt _ row2 (fun e=>h6 ⟨rfl,e⟩) g2
    exact .ptr q pt i' o' ⟨R.t,R.m,xs'⟩ b2 off2 c2 ⟨row2.t,zs'⟩ (by rw [rt3,if_pos rfl]) (by rw [k2];exact k1) (by rw [k2];exact g3)
   ·have t1:=transf _ _ h
    rw [kill_ptr (nk q pt e)] at t1
    have t2:=js _ _ t1
    rw [kill_ptr h5] at t2
    exact toPtr _ _ _ _ _ e (lt2 _ _ g1) t2
 ·rcases jg.2 _ _ h with h|h|h
  ·exact .inl h
  ·exact .inr (xin _ _ h)
  ·have:=I.keep.size;exact .inr (.inr (by omega))
end
end Go.Proofs.Ytggibjbcbicpjaa.Ev
namespace Go.Proofs.Ytggibjbcbicpjaa.Ev
open Go
set_option linter.unusedVariables false
set_option linter.unusedSimpArgs false
inductive Want where
 |keep
 |own (t:Nat)
 |fro (t:Nat)
 |list (l:List Want)
instance:Inhabited Want:=⟨.keep⟩
section
variable {Ty:Nat→Type} (E:Tb Ty)
def give0 (nf:Nat) (q:Want) (hp:Heap Ty):AV Ty→Option (AV Ty×Heap Ty)
 | .v x=>match x with
  | .slice none 0 0=>match q with
   | .own t=>some (.sl true t [],hp)
   | .fro t=>some (.sl false t [],hp)
   |_=>some (.v x,hp)
  |x=>some (.v x,hp)
 | .sl false t xs=>some (.sl false t xs,hp)
 | .ref r [] vw _=>match root hp r,Nat.ble nf r with
  |some R,true=>match R.m,q with
   |true, .keep=>some (.sl true R.t (view R.xs vw),hp.set r none)
   |true, .own _=>some (.sl true R.t (view R.xs vw),hp.set r none)
   |_,_=>some (.sl false R.t (view R.xs vw),hp.set r none)
  |_,_=>none
 | .ptr r [] 0 0=>match root hp r,Nat.ble nf r with
  |some ⟨t,m,[x]⟩,true=>some (.box m t x,hp.set r none)
  |_,_=>none
 |_=>none
def wants:Want→List Want
 | .list l=>l
 |_=>[]
def giveL (f:Want→Heap Ty→AV Ty→Option (AV Ty×Heap Ty)):List Want→Heap Ty→List (AV Ty)→Option (List (AV Ty)×Heap Ty)
 |_,hp,[]=>some ([],hp)
 |qs,hp,a :: l=>match f (qs.headD .keep) hp a with
  |some (b,hp1)=>match giveL f qs.tail hp1 l with
   |some (r,hp2)=>some (b :: r,hp2)
   |none=>none
  |none=>none
def give1 (nf:Nat) (q:Want) (hp:Heap Ty):AV Ty→Option (AV Ty×Heap Ty)
 | .agg cs=>match giveL (give0 nf) (wants q) hp cs with
  |some (r,hp')=>some (.agg r,hp')
  |none=>none
 |a=>give0 nf q hp a
def give2 (nf:Nat) (q:Want) (hp:Heap Ty):AV Ty→Option (AV Ty×Heap Ty)
 | .tup cs=>match giveL (give1 nf) (wants q) hp cs with
  |some (r,hp')=>some (.tup r,hp')
  |none=>none
 |a=>give1 nf q hp a
variable {E}
variable {X:Set2} {W0:World} {F0 F F':Set2} {w w':World} {hp hp':Heap Ty} {vals vals':Nat→Value} {sets sets':Nat→Set2} {P:Program}
theorem ResOk.grow (G:Good E) (hF: ∀b j,F b j→F' b j) {v:Value} {a:AV Ty} {S:Set2} (h:ResOk E F w v a S):(∀b j,S b j→F' b j→F b j)→ResOk E F' w v a S:=by
 induction h with
 |v x S h=>exact fun _=> .v x S h
 |fr v t xs S h1 h2=>exact fun _=> .fr v t xs S (h1.stable fun b j h=>⟨hF b j h,rfl⟩) h2
 |own v t xs S h=>exact fun hS=> .own v t xs S (h.stable (w:=w) (w':=w) G (fun b j h=>⟨hF b j h,rfl⟩) (fun _ _ _=>⟨rfl,rfl⟩) hS)
 |box b off c m t x S h=>exact fun hS=> .box b off c m t x S (h.stable (w:=w) (w':=w) G (fun b j h=>⟨hF b j h,rfl⟩) (fun _ _ _=>⟨rfl,rfl⟩) hS)
 |agg vs cs B S h1 h2 h3 h4 ih=>exact fun hS=> .agg vs cs B S h1 (fun i v a e1 e2=>ih i v a e1 e2 fun b j hb=>hS b j (h4 _ _ _ hb).2) h3 h4
 |tup vs cs B S h1 h2 h3 h4 ih=>exact fun hS=> .tup vs cs B S h1 (fun i v a e1 e2=>ih i v a e1 e2 fun b j hb=>hS b j (h4 _ _ _ hb).2) h3 h4
def Gave (E:Tb Ty) (nf:Nat) (w:World) (F:Set2) (hp:Heap Ty) (vals:Nat→Value) (sets:Nat→Set2) (v:Value) (a':AV Ty) (hp':Heap Ty):Prop:=
 ∃F' S,HRel E F' w hp' vals sets∧(∃ks,Less F F' sets hp hp' ks)∧ResOk E F' w v a' S∧(∀b j,S b j→ ¬F' b j∧ ∃r R,root hp r=some R∧root hp' r=none∧sets r b j)∧ ∀r,r<nf→root hp' r=root hp r
def GiveOk (E:Tb Ty) (nf:Nat) (f:Want→Heap Ty→AV Ty→Option (AV Ty×Heap Ty)):Prop:=
 ∀(w:World) (F0 F:Set2) (hp0 hp hp':Heap Ty) (vals:Nat→Value) (sets:Nat→Set2) (q:Want) (v:Value) (a a':AV Ty),HRel E F w hp vals sets→(∀r R,root hp r=some R→root hp0 r=some R)→(∀b j,F0 b j→F b j)→VRep E F0 w hp0 vals v a→f q hp a=some (a',hp')→Gave E nf w F hp vals sets v a' hp'
theorem Gave.same {nf:Nat} (H:HRel E F w hp vals sets) {v:Value} {a:AV Ty} (h:ResOk E F w v a fun _ _=>False):Gave E nf w F hp vals sets v a hp:=
 ⟨F,fun _ _=>False,H,⟨[], .refl _ _ _⟩,h,fun _ _ h=>h.elim,fun _ _=>rfl⟩
theorem HRel.free (H:HRel E F w hp vals sets) {r:Nat}:HRel E F w (hp.set r none) vals sets:=by
 have hroot: ∀r',root (hp.set r none) r'=if r=r' then none else root hp r':=by
  intro r'
  rw [root_set]
  split
  ·simp
  ·rfl
 refine ⟨fun r' R h=> ?_,fun r1 r2 R1 R2 h1 h2=> ?_⟩
 ·rw [hroot] at h
  split at h
  ·cases h
  ·exact H.own r' R h
 ·rw [hroot] at h1 h2
  split at h1
  ·cases h1
  ·split at h2
   ·cases h2
   ·exact H.dj r1 r2 R1 R2 h1 h2
theorem root_free {r r':Nat}:root (hp.set r none) r'=if r=r' then none else root hp r':=by
 rw [root_set]
 split
 ·simp
 ·rfl
theorem Less.free (F:Set2) (sets:Nat→Set2) (r:Nat):Less F F sets hp (hp.set r none) [(r,0)]:=by
 refine ⟨fun r' R h=> ?_,fun r' R h=> ?_,fun _ _ h=>h,fun _ _ h=> .inl h,by simp⟩
 ·rw [root_free] at h
  split at h
  ·cases h
  ·exact h
 ·rw [root_free]
  by_cases e:r=r'
  ·subst e;rw [if_pos rfl];exact .inr ⟨rfl,by simp⟩
  ·rw [if_neg e];exact .inl h
theorem freeze_ok (G:Good E) (H:HRel E F w hp vals sets) {r:Nat} {R:Root Ty} (hR:root hp r=some R) {v:Value} {vw:Option (Nat×Nat)} {full:Bool} (hv:ViewOk (szOf E R.t) R.xs.length (vals r) vw full v):
  ∃F',HRel E F' w (hp.set r none) vals sets∧Less F F' sets hp (hp.set r none) [(r,0)]∧Rep E F' w v (.sl false R.t (view R.xs vw)):=by
 obtain ⟨S',hO,hS⟩:=(H.own r R hR).view G hv
 obtain ⟨F',hF'⟩: ∃F':Set2,∀b j,F' b j↔F b j∨sets r b j:=⟨fun b j=>F b j∨sets r b j,fun _ _=>Iff.rfl⟩
 refine ⟨F',⟨fun r' R' h=> ?_,H.free.dj⟩,?_,hO.rep G (fun b j h=>(hF' b j).2 (.inl h)) fun b j h=>(hF' b j).2 (.inr (hS _ _ h))⟩
 ·rw [root_free] at h
  split at h
  ·cases h
  ·rename_i e
   refine (H.own r' R' h).stable (w:=w) (w':=w) G (fun b j h=>⟨(hF' b j).2 (.inl h),rfl⟩) (fun _ _ _=>⟨rfl,rfl⟩) fun b j s hf=> ?_
   rcases (hF' b j).1 hf with hf|hf
   ·exact hf
   ·exact absurd (H.dj _ _ _ _ hR h b j hf s) e
 ·have L:=Less.free (hp:=hp) F sets r
  refine ⟨L.sub,L.out,fun b j h=>(hF' b j).2 (.inl h),fun b j h=> ?_,L.len⟩
  rcases (hF' b j).1 h with h|h
  ·exact .inl h
  ·exact .inr ⟨r,R,hR,by rw [root_free,if_pos rfl],h⟩
theorem free_gave (G:Good E) {nf:Nat} (H:HRel E F w hp vals sets) {r:Nat} {R:Root Ty} (hR:root hp r=some R) (hn:Nat.ble nf r=true) {v:Value} {a:AV Ty} {S:Set2} (hS: ∀b j,S b j→sets r b j) (h:ResOk E F w v a S):Gave E nf w F hp vals sets v a (hp.set r none):=
 ⟨F,S,H.free,⟨_, .free F sets r⟩,h,fun b j s=>⟨((H.own r R hR).free b j (hS _ _ s)).2.2,r,R,hR,by rw [root_free,if_pos rfl],hS _ _ s⟩,fun r' h'=>by rw [root_free,if_neg (by have:=Nat.le_of_ble_eq_true hn;omega)]⟩
theorem give0_ok (G:Good E) (nf:Nat):GiveOk E nf (give0 (Ty:=Ty) nf):=by
 intro w F0 F hp0 hp hp' vals sets q v a a' H hsub hF hv h
 unfold give0 at h
 split at h
 ·rename_i x
  have e:=hv.v
  subst e
  split at h
  ·split at h
   ·cases h;exact .same H (.own _ _ _ _ (.nil _ _ _ fun _ _ h=>h))
   ·cases h;exact .same H (.fr _ _ _ _ (.nil _ _ _) fun _ _ h=>h)
   ·cases h;exact .same H (.v _ _ fun _ _ h=>h)
  ·cases h;exact .same H (.v _ _ fun _ _ h=>h)
 ·cases h
  exact .same H (.fr _ _ _ _ (hv.sl.stable fun b j h=>⟨hF b j h,rfl⟩) fun _ _ h=>h)
 ·rename_i r vw full
  obtain ⟨R0,u,row,k1,k2,k3⟩:=hv.ref'
  split at h
  ·rename_i R hR hn
   have hR0:=hsub r R hR
   rw [k1] at hR0
   cases hR0
   obtain ⟨rfl,rfl⟩:=k2
   obtain ⟨S',hO,hS⟩:=(H.own r R0 hR).view G k3
   have own:R0.m=true→Gave E nf w F hp vals sets v (.sl true R0.t (view R0.xs vw)) (hp.set r none):=fun hm=>by
    rw [hm] at hO
    exact free_gave G H hR hn hS (.own _ _ _ _ hO)
   split at h
   ·cases h;exact own (by assumption)
   ·cases h;exact own (by assumption)
   ·cases h
    obtain ⟨F',h1,h2,h3⟩:=freeze_ok G H hR k3
    exact ⟨F',fun _ _=>False,h1,⟨_,h2⟩, .fr _ _ _ _ h3 fun _ _ h=>h,fun _ _ h=>h.elim,fun r' h'=>by rw [root_free,if_neg (by have:=Nat.le_of_ble_eq_true hn;omega)]⟩
  ·cases h
 ·rename_i r
  obtain ⟨R0,b,off,c,row,k1,k2,k3,rfl⟩:=hv.ptr'
  split at h
  ·rename_i t m x hR hn
   cases h
   have hR0:=hsub r _ hR
   rw [k1] at hR0
   cases hR0
   obtain ⟨e1,rfl⟩:=k2
   have hO:=H.own r _ hR
   rw [←e1] at hO
   have:=free_gave G H hR hn (fun b j h=>h) (.box b off c m t x _ hO)
   simpa using this
  ·cases h
 ·cases h
theorem giveL_ok (G:Good E) {nf:Nat} {f:Want→Heap Ty→AV Ty→Option (AV Ty×Heap Ty)} (hf:GiveOk E nf f) (w:World) (F0:Set2) (hp0:Heap Ty) (vals:Nat→Value) (sets:Nat→Set2): ∀(l:List (AV Ty)) (vs:List Value) (qs:List Want) (F:Set2) (hp hp':Heap Ty) (r:List (AV Ty)),
  HRel E F w hp vals sets→(∀r R,root hp r=some R→root hp0 r=some R)→(∀b j,F0 b j→F b j)→vs.length=l.length→(∀(i:Nat) v a,vs[i]? =some v→l[i]? =some a→VRep E F0 w hp0 vals v a)→giveL f qs hp l=some (r,hp')→
  ∃(F':Set2) (B:Nat→Set2),HRel E F' w hp' vals sets∧(∃ks,Less F F' sets hp hp' ks)∧r.length=l.length∧(∀(i:Nat) v a,vs[i]? =some v→r[i]? =some a→ResOk E F' w v a (B i))∧(∀i j b o,B i b o→B j b o→i=j)∧(∀i b j,B i b j→i<r.length∧ ¬F' b j∧ ∃q R,root hp q=some R∧root hp' q=none∧sets q b j)∧ ∀r,r<nf→root hp' r=root hp r
 |[],vs,qs,F,hp,hp',r,H,hsub,hF,hl,hv,h=>by
  cases h
  exact ⟨F,fun _ _ _=>False,H,⟨_, .refl _ _ _⟩,rfl,fun i v a _ e=>by simp at e,fun i j b o h=>h.elim,fun i b j h=>h.elim,fun _ _=>rfl⟩
 |a :: l,[],qs,F,hp,hp',r,H,hsub,hF,hl,hv,h=>by simp at hl
 |a :: l,v :: vs,qs,F,hp,hp',r,H,hsub,hF,hl,hv,h=>by
  unfold giveL at h
  split at h
  ·rename_i b1 hp1 e1
   split at h
   ·rename_i r' hp2 e2
    cases h
    obtain ⟨F1,S1,H1,⟨ks1,L1⟩,R1,S1ok,N1⟩:=hf w F0 F hp0 hp hp1 vals sets _ v a b1 H hsub hF (hv 0 v a rfl rfl) e1
    obtain ⟨F2,B,H2,⟨ks2,L2⟩,l2,R2,D2,B2,N2⟩:=giveL_ok G hf w F0 hp0 vals sets l vs qs.tail F1 hp1 hp' r' H1 (fun r R h=>hsub _ _ (L1.sub _ _ h)) (fun b j h=>L1.inc _ _ (hF _ _ h)) (by simpa using hl) (fun i v a q1 q2=>hv (i+1) v a (by simpa using q1) (by simpa using q2)) e2
    have sep: ∀b j,S1 b j→ ∀q R,root hp1 q=some R→sets q b j→False:=fun b j s q R hq hs=>by
     obtain ⟨_,r,R0,k1,k2,k3⟩:=S1ok b j s
     have:=H.dj _ _ _ _ k1 (L1.sub _ _ hq) b j k3 hs
     subst this
     rw [k2] at hq;cases hq
    have S1F2: ∀b j,S1 b j→F2 b j→F1 b j:=fun b j s h=>by
     rcases L2.fro b j h with h|⟨q,R,k1,_,k3⟩
     ·exact h
     ·exact (sep b j s q R k1 k3).elim
    refine ⟨F2,fun i=>match i with|0=>S1|i+1=>B i,H2,⟨_,L1.trans L2⟩,by simp [l2],fun i v' a' q1 q2=> ?_,fun i j b o s1 s2=> ?_,fun i b j s=> ?_,fun r h=>by rw [N2 r h,N1 r h]⟩
    ·cases i with
     |zero=>cases q1;cases q2;exact R1.grow G L2.inc S1F2
     |succ i=>exact R2 i v' a' (by simpa using q1) (by simpa using q2)
    ·cases i with
     |zero=>
      cases j with
      |zero=>rfl
      |succ j=>
       obtain ⟨_,_,q,R,k1,_,k3⟩:=B2 _ _ _ s2
       exact (sep _ _ s1 q R k1 k3).elim
     |succ i=>
      cases j with
      |zero=>
       obtain ⟨_,_,q,R,k1,_,k3⟩:=B2 _ _ _ s1
       exact (sep _ _ s2 q R k1 k3).elim
      |succ j=>rw [D2 i j b o s1 s2]
    ·cases i with
     |zero=>
      obtain ⟨k0,q,R,k1,k2,k3⟩:=S1ok b j s
      refine ⟨by simp,fun h=>k0 (S1F2 _ _ s h),q,R,k1,?_,k3⟩
      cases e:root hp' q with
      |none=>rfl
      |some R'=>have:=L2.sub _ _ e;rw [k2] at this;cases this
     |succ i=>
      obtain ⟨k0,k1,q,R,k2,k3,k4⟩:=B2 _ _ _ s
      exact ⟨by simpa using k0,k1,q,R,L1.sub _ _ k2,k3,k4⟩
   ·cases h
  ·cases h
theorem give1_ok (G:Good E) (nf:Nat):GiveOk E nf (give1 (Ty:=Ty) nf):=by
 intro w F0 F hp0 hp hp' vals sets q v a a' H hsub hF hv h
 unfold give1 at h
 split at h
 ·rename_i cs
  split at h
  ·rename_i r hp2 e
   cases h
   obtain ⟨vs,rfl,h1,h2⟩:=hv.agg'
   obtain ⟨F',B,H',L,l,R,D,Bk,N⟩:=giveL_ok G (give0_ok G nf) w F0 hp0 vals sets cs vs.toList (wants q) F hp hp' r H hsub hF (by simpa using h1) (fun i v a q1 q2=>h2 i v a (by simpa using q1) q2) e
   refine ⟨F',fun b j=> ∃i,B i b j,H',L, .agg vs r B _ (by rw [h1,l]) (fun i v a q1 q2=>R i v a (by simpa using q1) q2) D (fun i b o s=>⟨(Bk _ _ _ s).1,i,s⟩),fun b j ⟨i,s⟩=>(Bk _ _ _ s).2,N⟩
  ·cases h
 ·exact give0_ok G nf w F0 F hp0 hp hp' vals sets q v _ a' H hsub hF hv h
theorem give2_ok (G:Good E) (nf:Nat):GiveOk E nf (give2 (Ty:=Ty) nf):=by
 intro w F0 F hp0 hp hp' vals sets q v a a' H hsub hF hv h
 unfold give2 at h
 split at h
 ·rename_i cs
  split at h
  ·rename_i r hp2 e
   cases h
   obtain ⟨vs,rfl,h1,h2⟩:=hv.tup'
   obtain ⟨F',B,H',L,l,R,D,Bk,N⟩:=giveL_ok G (give1_ok G nf) w F0 hp0 vals sets cs vs.toList (wants q) F hp hp' r H hsub hF (by simpa using h1) (fun i v a q1 q2=>h2 i v a (by simpa using q1) q2) e
   refine ⟨F',fun b j=> ∃i,B i b j,H',L, .tup vs r B _ (by rw [h1,l]) (fun i v a q1 q2=>R i v a (by simpa using q1) q2) D (fun i b o s=>⟨(Bk _ _ _ s).1,i,s⟩),fun b j ⟨i,s⟩=>(Bk _ _ _ s).2,N⟩
  ·cases h
 ·exact give1_ok G nf w F0 F hp0 hp hp' vals sets q v _ a' H hsub hF hv h
end
end Go.Proofs.Ytggibjbcbicpjaa.Ev
namespace Go.Proofs.Ytggibjbcbicpjaa.Ev
open Go
set_option linter.unusedVariables false
set_option linter.unusedSimpArgs false
section
variable {Ty:Nat→Type} (E:Tb Ty)
def gone:Nat→Heap Ty→Heap Ty→List (Nat×Nat)
 |i,x :: l,y :: l'=>match x,y with
  |some _,none=>(i,0) :: gone (i+1) l l'
  |_,_=>gone (i+1) l l'
 |_,_,_=>[]
def wantsT (t:Nat):Want:=match E.ti t with
 |some ⟨_,_, .struct fs⟩=> .list (fs.map fun p=>match E.ti p.2 with
  |some ⟨_,_, .slice e⟩=> .own e
  |_=> .keep)
 |_=> .keep
def giftT (nf:Nat) (hp:Heap Ty) (S:List (AV Ty)→T (AV Ty×List (AV Ty))) (q:Want) (a:AV Ty):T (EffR Ty):=match give1 nf q hp a with
 |some (g,hp1)=>match giftA g with
  |true=>(S [g]).bind fun p=>match takeA hp1 p.1 with
   |some (r,hp2)=> .ret (r,hp2,gone 0 hp hp1)
   |none=> .fail
  |false=> .fail
 |none=> .fail
def giftArg:List Bool→List (AV Ty)→Option (AV Ty)
 |[true],[.agg cs]=>some (.agg cs)
 |_,_=>none
def callJ (nf:Nat) (hp:Heap Ty) (mu:List Bool) (S:List (AV Ty)→T (AV Ty×List (AV Ty))) (ts:List Nat) (raw args:List (AV Ty)):T (EffR Ty):=match giftArg mu raw with
 |some a=>giftT nf hp S (wantsT E (ts.headD 0)) a
 |none=>callI E hp mu S args
variable {E}
variable {X:Set2} {W0:World} {F F':Set2} {w w':World} {hp hp':Heap Ty} {vals vals':Nat→Value} {sets sets':Nat→Set2} {P:Program}
theorem gone_spec: ∀(hp hp1:Heap Ty) (i:Nat) (r:Nat) {R:Root Ty},hp1.length=hp.length→hp[r]? =some (some R)→hp1[r]? =some none→(i+r,0)∈gone i hp hp1
 |[],_,i,r,R,_,h,_=>by simp at h
 |x :: l,[],i,r,R,hl,h,_=>by simp at hl
 |x :: l,y :: l',i,0,R,hl,h1,h2=>by
  simp only [List.getElem?_cons_zero,Option.some.injEq] at h1 h2
  subst h1 h2
  unfold gone
  exact List.mem_cons_self
 |x :: l,y :: l',i,r+1,R,hl,h1,h2=>by
  have:=gone_spec l l' (i+1) r (by simpa using hl) (by simpa using h1) (by simpa using h2)
  rw [show i+1+r=i+(r+1) by omega] at this
  unfold gone
  split
  ·exact List.mem_cons_of_mem _ this
  ·exact this
theorem root_some {r:Nat} {R:Root Ty} (h:root hp r=some R):hp[r]? =some (some R):=by
 unfold root at h
 split at h
 ·rename_i x e;rw [e,h]
 ·cases h
theorem gift_ok (G:Good E) (I:Inv E X W0 F w hp vals sets) {S:List (AV Ty)→T (AV Ty×List (AV Ty))} {f:FuncId} {a:AV Ty} {v:Value} {nf:Nat} {q:Want} (hv:VRep E F w hp vals v a)
  (hS: ∀as r outs,(S as).val=some (r,outs)→CallOk E P f as r outs) {res:EffR Ty} (h:(giftT nf hp S q a).val=some res):
  Calls P f #[v] w fun e w'=> ∃(v:Value) (F':Set2) (vals':Nat→Value) (sets':Nat→Set2),e= .returned v∧Inv E X W0 F' w' res.2.1 vals' sets'∧VRep E F' w' res.2.1 vals' v res.1∧
   (∀u a,VRep E F w hp vals u a→VRep E F' w' res.2.1 vals' u (killA res.2.2 a))∧(∀j,j<hp.length→vals' j=vals j)∧Grow X W0 F F':=by
 unfold giftT at h
 split at h
 case h_2=>cases h
 rename_i g hp1 hg
 split at h
 case h_2=>cases h
 rename_i hga
 rw [T.val_bind] at h
 obtain ⟨⟨r,outs⟩,hs,h⟩:=h
 split at h
 case h_2=>cases h
 rename_i r' hp2 ht
 cases h
 obtain ⟨F1,S1,H1,⟨ks,L⟩,hres,hS1,_⟩:=give1_ok G nf w F F hp hp hp1 vals sets q v a g I.H (fun _ _ h=>h) (fun _ _ h=>h) hv hg
 have F1b: ∀b j,F1 b j→b<w.heap.size:=fun b j h=>by
  rcases L.fro b j h with h|⟨r,R',h1,_,h2⟩
  ·exact I.fb _ _ h
  ·exact I.lt h1 h2
 have S1lim: ∀b j,S1 b j→X b j∨W0.heap.size≤b:=fun b j h=>by
  obtain ⟨_,r,R,h1,_,h2⟩:=hS1 b j h
  exact I.lim r R b j h1 h2
 have sep: ∀q R b j,root hp1 q=some R→sets q b j→ ¬S1 b j:=fun q R b j hq hs h=>by
  obtain ⟨_,r,R',h1,h2,h3⟩:=hS1 b j h
  have:=I.H.dj _ _ _ _ (L.sub _ _ hq) h1 b j hs h3
  subst this
  rw [h2] at hq;cases hq
 refine (((hS [g] r outs hs).2.1 g rfl hga) w F1 S1 v (fun b j h=>⟨F1b b j h,fun h'=>(hS1 b j h').1 h⟩) hres).mono ?_
 rintro e w' ⟨v',Sr,F2,rfl,hK,c1,c2,c3,c4,c5⟩
 have keepF: ∀b j,F1 b j→w'.cell? ⟨b,j,none⟩=w.cell? ⟨b,j,none⟩:=fun b j h=>(hK.cell b j (F1b b j h) fun h'=>(hS1 b j h').1 h).1
 have keepS: ∀q R b j,root hp1 q=some R→sets q b j→w'.cell? ⟨b,j,none⟩=w.cell? ⟨b,j,none⟩∧w'.frozen? ⟨b,j,none⟩=w.frozen? ⟨b,j,none⟩:=fun q R b j h s=>hK.cell b j (I.lt (L.sub _ _ h) s) (sep q R b j h s)
 have I2:Inv E X W0 F2 w' hp1 vals sets:=by
  refine ⟨⟨fun q R h=> ?_,fun q q' R R' h1 h2=>H1.dj q q' R R' h1 h2⟩,c3,fun q R b j h s=>I.lim q R b j (L.sub _ _ h) s,I.keep.trans hK S1lim⟩
  refine (H1.own q R h).stable G (fun b j h=>⟨c1 b j h,keepF b j h⟩) (fun b j s=>keepS q R b j h s) (fun b j s hf=> ?_)
  rcases c2 b j hf with h'|h'|h'
  ·exact h'
  ·have:=I.lt (L.sub _ _ h) s;omega
  ·exact absurd h' (sep q R b j h s)
 have sz:=I.keep.size
 obtain ⟨vals3,sets3,I3,M3,V3⟩:=take_ok c4 ht I2 (fun q R b j h s hs=>by
  rcases c5 b j hs with h'|h'
  ·have:=I.lt (L.sub _ _ h) s;omega
  ·exact sep q R b j h s h') (fun b j hs=>by
  rcases c5 b j hs with h'|h'
  ·exact .inr (by omega)
  ·exact S1lim b j h')
 have glen:hp1.length=hp.length:=L.len
 refine ⟨v',F2,vals3,sets3,rfl,I3,V3,fun u a' hu=>VRep.more M3 ?_,fun j hj=>(M3.old j (by omega)).2.1,fun b j h=>c1 _ _ (L.inc _ _ h),fun b j h=> ?_⟩
 ·refine survive (fun b j h=>⟨c1 _ _ (L.inc _ _ h),keepF _ _ (L.inc _ _ h)⟩) (fun q R p h1 hh=> ?_) hu
  have hq:root hp1 q=some R:=by
   cases e:root hp1 q with
   |some R'=>rw [←L.sub _ _ e,h1]
   |none=>
    exfalso
    have hlt:=root_lt h1
    have e1:hp1[q]? =some none:=by
     unfold root at e
     have hq':q<hp1.length:=by omega
     rw [List.getElem?_eq_getElem hq'] at e⊢
     simp only at e
     rw [e]
    have:=gone_spec hp hp1 0 q glen (root_some h1) e1
    rw [Nat.zero_add] at this
    exact absurd (hit_mem hh this) (by omega)
  exact survive_root (hp':=hp1) (vals':=vals) G I.H h1 hq rfl (fun b j s=>(keepS q R b j hq s).1)
 ·rcases c2 b j h with h'|h'|h'
  ·rcases L.fro b j h' with h'|⟨q,R,h1,_,h2⟩
   ·exact .inl h'
   ·exact .inr (I.lim q R b j h1 h2)
  ·exact .inr (.inr (by omega))
  ·exact .inr (S1lim b j h')
def Only (hp hp1:Heap Ty):Prop:=hp1.length=hp.length∧ ∀r,root hp1 r=root hp r∨root hp1 r=none
theorem Only.refl (hp:Heap Ty):Only hp hp:=⟨rfl,fun _=> .inl rfl⟩
theorem Only.free (hp:Heap Ty) (r:Nat):Only hp (hp.set r none):=⟨List.length_set,fun q=>by rw [root_free];split;exact .inr rfl;exact .inl rfl⟩
theorem Only.trans {hp hp1 hp2:Heap Ty} (h:Only hp hp1) (k:Only hp1 hp2):Only hp hp2:=⟨k.1.trans h.1,fun r=>by
 rcases k.2 r with e|e
 ·rw [e];exact h.2 r
 ·exact .inr e⟩
theorem give0_only {nf:Nat} {q:Want} {hp hp1:Heap Ty} {a b:AV Ty} (h:give0 nf q hp a=some (b,hp1)):Only hp hp1:=by
 unfold give0 at h
 split at h
 ·split at h
  ·split at h<;>(cases h;exact .refl _)
  ·cases h;exact .refl _
 ·cases h;exact .refl _
 ·split at h
  ·split at h<;>(cases h;exact .free _ _)
  ·cases h
 ·split at h
  ·cases h;exact .free _ _
  ·cases h
 ·cases h
theorem giveL_only {f:Want→Heap Ty→AV Ty→Option (AV Ty×Heap Ty)} (hf: ∀q hp hp1 a b,f q hp a=some (b,hp1)→Only hp hp1): ∀(l:List (AV Ty)) (qs:List Want) (hp hp1:Heap Ty) (r:List (AV Ty)),giveL f qs hp l=some (r,hp1)→Only hp hp1
 |[],qs,hp,hp1,r,h=>by cases h;exact .refl _
 |a :: l,qs,hp,hp1,r,h=>by
  unfold giveL at h
  split at h
  ·rename_i e1
   split at h
   ·rename_i e2
    cases h
    exact (hf _ _ _ _ _ e1).trans (giveL_only hf l _ _ _ _ e2)
   ·cases h
  ·cases h
theorem give1_only {nf:Nat} {q:Want} {hp hp1:Heap Ty} {a b:AV Ty} (h:give1 nf q hp a=some (b,hp1)):Only hp hp1:=by
 unfold give1 at h
 split at h
 ·split at h
  ·rename_i e
   cases h
   exact giveL_only (fun q hp hp1 a b h=>give0_only h) _ _ _ _ _ e
  ·cases h
 ·exact give0_only h
theorem callJ_ok (G:Good E) (I:Inv E X W0 F w hp vals sets) {mu:List Bool} {S:List (AV Ty)→T (AV Ty×List (AV Ty))} {f:FuncId} {raw args:List (AV Ty)} {vs:List Value} (hl0:vs.length=raw.length) (hv0: ∀(i:Nat) v a,vs[i]? =some v→raw[i]? =some a→VRep E F w hp vals v a)
  (hlen:vs.length=args.length) (hv: ∀(i:Nat) v a,vs[i]? =some v→args[i]? =some a→VRep E F w hp vals v a)
  (hS: ∀as r outs,(S as).val=some (r,outs)→CallOk E P f as r outs) {nf:Nat} {ts:List Nat} {res:EffR Ty} (h:(callJ E nf hp mu S ts raw args).val=some res):
  Calls P f vs.toArray w fun e w'=> ∃(v:Value) (F':Set2) (vals':Nat→Value) (sets':Nat→Set2),e= .returned v∧Inv E X W0 F' w' res.2.1 vals' sets'∧VRep E F' w' res.2.1 vals' v res.1∧
   (∀u a,VRep E F w hp vals u a→VRep E F' w' res.2.1 vals' u (killA res.2.2 a))∧(∀j,j<hp.length→vals' j=vals j)∧Grow X W0 F F':=by
 unfold callJ at h
 split at h
 ·rename_i a ha
  unfold giftArg at ha
  split at ha
  ·cases ha
   match vs,hl0 with
   |[v],_=>exact gift_ok G I (hv0 0 v _ rfl rfl) hS h
  ·cases ha
 ·exact callI_ok G I hlen hv hS h
end
end Go.Proofs.Ytggibjbcbicpjaa.Ev
namespace Go.Proofs.Ytggibjbcbicpjaa.Ev
open Go
set_option linter.unusedVariables false
set_option linter.unusedSimpArgs false
section
variable {Ty:Nat→Type} {E:Tb Ty}
variable {X:Set2} {W0:World} {F F':Set2} {w w':World} {hp hp':Heap Ty} {vals vals':Nat→Value} {sets sets':Nat→Set2} {P:Program}
theorem load_agg (K:TbOk E P) {t:Nat} {i:TI} (hi:E.ti t=some i) (hb:isAggD i.d=true) (hn:(match i.d with| .other=>false|_=>true)=true) {b base:Nat} {vs:List Value} (hl:vs.length=i.sz) (hc: ∀k v,vs[k]? =some v→w.cell? ⟨b,base+k,none⟩=some v):
  (Instr.loadAt t (.pointer (some ⟨b,base,none⟩))).run P w= .ok (.agg vs.toArray) w:=by
 have hagg:=isAgg_ok K hi hn w
 obtain ⟨j,hj1,hj2,_⟩:=K.info t i hi
 unfold Instr.loadAt loadVar
 simp only [Instr.sureAddr,Pure.pure,Sem.bind,Bind.bind]
 have hl2:=loadCells_ok (P:=P) (w:=w) (b:=b) (base:=base) (vs:=vs) i.sz 0 #[] (fun k hk=>by
  have hk':k<vs.length:=by omega
  refine ⟨vs[k],List.getElem?_eq_getElem hk',?_⟩
  rw [Nat.zero_add]
  exact hc k _ (List.getElem?_eq_getElem hk')) hl
 have:=Sem.run_bind (P:=P) (w:=w) (isAgg t) (fun b_1=>if b_1=true then (sizeOf t).bind fun n=>(loadCells ⟨b,base,none⟩ n).bind fun cs=>Sem.pure (Value.agg cs) else load ⟨b,base,none⟩)
 refine (this.trans ?_)
 rw [hagg,hb]
 simp only [Result.andThen,if_true]
 rw [run_sizeOf hj1,hj2]
 refine (Sem.run_bind (P:=P) (w:=w) (loadCells ⟨b,base,none⟩ i.sz) _).trans ?_
 unfold loadCells
 rw [hl2]
 simp [Result.andThen,Sem.run]
theorem Keep.more {X Y:Set2} {W w:World} (h:Keep X W w) (hxy: ∀b j,X b j→Y b j):Keep Y W w:=
 ⟨h.os,h.tape,h.output,h.size,fun k hk hn=>h.block k hk fun j hj=>hn j (hxy _ _ hj),fun b j hb hn=>h.cell b j hb fun hx=>hn (hxy _ _ hx)⟩
theorem fuse_box (K:TbOk E P) (G:Good E) {t:Nat} {i:TI} (hi:E.ti t=some i) (hb:isAggD i.d=true) (hn:(match i.d with| .other=>false|_=>true)=true) (hsz:i.sz=szOf E t) {b off:Nat} {x:Ty t} {S1:Set2} (hO:Own E F w true (.slice (some ⟨b,off,none⟩) 1 1) t [x] S1)
  (hfb: ∀b j,F b j→b<w.heap.size) {f:FuncId} {cs' outs:List (AV Ty)} (hS:CallOk E P f [.agg ((E.cod t).enc true x)] (.agg cs') outs) (hg:giftA (.agg ((E.cod t).enc true x))=true) {x':Ty t} (hx':(E.cod t).dec true cs'=some x'):
  ∃v1,(Instr.loadAt t (.pointer (some ⟨b,off,none⟩))).run P w= .ok v1 w∧Calls P f #[v1] w fun e w1=> ∃v2,e= .returned v2∧ ∃w2,(Instr.storeAt t (.pointer (some ⟨b,off,none⟩)) v2).run P w1= .ok () w2∧
   ∃F' S3:Set2,Keep S1 w w2∧(∀b j,F b j→F' b j)∧(∀b j,F' b j→F b j∨w.heap.size≤b∨S1 b j)∧(∀b j,F' b j→b<w2.heap.size)∧Own E F' w2 true (.slice (some ⟨b,off,none⟩) 1 1) t [x'] S3∧ ∀b j,S3 b j→w.heap.size≤b∨S1 b j:=by
 rcases hO.inv with ⟨_,hnil,_⟩|⟨b0,off0,c0,g,B,e,R⟩
 ·cases hnil
 injection e with q1 q2 q3
 injection q1 with q1
 injection q1 with q1 q4
 subst q1 q4 q3
 have hl:=G.len t true x
 have hz1:1*szOf E t=szOf E t:=Nat.one_mul _
 obtain ⟨vs,hvs⟩: ∃vs:List Value,vs=(List.range (szOf E t)).map (g 0):=⟨_,rfl⟩
 have vl:vs.length=szOf E t:=by rw [hvs];simp
 have vg: ∀k v,vs[k]? =some v→k<szOf E t∧v=g 0 k:=fun k v e=>by
  have hk:k<vs.length:=get_lt e
  rw [hvs,List.getElem?_map,List.getElem?_range (by omega)] at e
  exact ⟨by omega,(Option.some.inj e).symm⟩
 have enc_at: ∀k,k<szOf E t→ ∃a,((E.cod t).enc true x)[k]? =some a:=fun k hk=>⟨_,List.getElem?_eq_getElem (by omega)⟩
 have hload:=load_agg (P:=P) (w:=w) K hi hb hn (b:=b) (base:=off) (vs:=vs) (by omega) (fun k v e=>by
  obtain ⟨hk,rfl⟩:=vg k v e
  obtain ⟨a,ha⟩:=enc_at k hk
  have:=R.cell 0 x k a rfl ha
  simpa using this)
 refine ⟨.agg vs.toArray,hload,?_⟩
 obtain ⟨Rows,hRows⟩: ∃Rows:Set2,∀b j,Rows b j↔ ∃o,B 0 o b j:=⟨fun b j=> ∃o,B 0 o b j,fun _ _=>Iff.rfl⟩
 have rows1: ∀b j,Rows b j→S1 b j:=fun b' j h=>by
  obtain ⟨o,h⟩:=(hRows _ _).1 h
  exact (R.iff _ _).2 (.inr ⟨0,o,h⟩)
 have noOwn: ∀o a,((E.cod t).enc true x)[o]? =some a→ ¬isOwn a→ ∀b j,¬B 0 o b j:=fun o a ha hno b' j h=>by
  obtain ⟨x2,t',ys,e1,e2⟩:=R.rg 0 o b' j h
  cases e1
  rw [ha] at e2
  cases e2
  exact hno trivial
 have res:ResOk E F w (.agg vs.toArray) (.agg ((E.cod t).enc true x)) Rows:=by
  refine .agg _ _ (B 0) _ (by simp [vl,hl]) (fun k v a e1 e2=> ?_) (fun i j b' o h1 h2=>(R.dj 0 i 0 j b' o h1 h2).2) (fun i b' o h=> ?_)
  ·obtain ⟨hk,rfl⟩:=vg k v (by simpa using e1)
   rcases G.cell t true x a (List.mem_of_getElem? e2) with ⟨y,rfl,_⟩|⟨q,t',ys,rfl,_⟩
   ·have h1:=R.rep 0 x k _ rfl e2 (fun h=>h)
    have:g 0 k=y:=by
     generalize g 0 k=u at h1
     cases h1
     rfl
    rw [this]
    exact .v y _ (noOwn k _ e2 (fun h=>h))
   ·cases q with
    |false=>exact .fr _ _ _ _ (R.rep 0 x k _ rfl e2 (fun h=>h)) (noOwn k _ e2 (fun h=>h))
    |true=>exact .own _ _ _ _ (R.own 0 x k t' ys rfl e2)
  ·obtain ⟨x2,t',ys,e1,e2⟩:=R.rg 0 i b' o h
   cases e1
   exact ⟨get_lt e2,(hRows _ _).2 ⟨i,h⟩⟩
 have bsz: ∀k,k<szOf E t→b<w.heap.size:=fun k hk=>by
  obtain ⟨⟨u,hu⟩,_⟩:=R.cap k (by omega)
  exact cell_lt hu
 refine (((hS.2.1 _ rfl hg) w F Rows _ (fun b' j h=>⟨hfb _ _ h,fun h'=>(hO.free _ _ (rows1 _ _ h')).2.2 h⟩) res)).mono ?_
 rintro e w1 ⟨v2,S2,F2,rfl,hK,c1,c2,c3,c4,c5⟩
 refine ⟨v2,rfl,?_⟩
 have henc:=G.dec _ _ _ _ hx'
 have hl':=G.len t true x'
 rw [henc] at hl'
 generalize hcs:AV.agg cs'=ac at c4
 cases c4 with
 |v _ _ _=>cases hcs
 |fr _ _ _ _ _ _=>cases hcs
 |own _ _ _ _ _=>cases hcs
 |box _ _ _ _ _ _ _ _=>cases hcs
 |tup _ _ _ _ _ _ _ _=>cases hcs
 |agg vs2 cs2 B2 _ d1 d2 d3 d4=>
 cases hcs
 have mine: ∀k,k<szOf E t→(∃u,w1.cell? ⟨b,off+k,none⟩=some u)∧w1.frozen? ⟨b,off+k,none⟩=false∧ ¬F2 b (off+k)∧ ¬S2 b (off+k):=fun k hk=>by
  obtain ⟨⟨u,hu⟩,h2,h3⟩:=R.cap k (by omega)
  have hnr: ¬Rows b (off+k):=fun h=>by
   obtain ⟨o,h⟩:=(hRows _ _).1 h
   exact R.dr 0 o k (by omega) h
  have hlt:=bsz k hk
  obtain ⟨e1,e2⟩:=hK.cell b (off+k) hlt hnr
  refine ⟨⟨u,by rw [e1];exact hu⟩,by rw [e2];exact h2,fun h=> ?_,fun h=> ?_⟩
  ·rcases c2 _ _ h with h|h|h
   ·exact h3 h
   ·omega
   ·exact hnr h
  ·rcases c5 _ _ h with h|h
   ·omega
   ·exact hnr h
 have v2l:vs2.toList.length=szOf E t:=by simp [d1,hl']
 have one2: ∀v∈vs2.toList,oneC v=true:=fun v hv=>by
  obtain ⟨k,hk,e⟩:=List.getElem_of_mem hv
  have hk':k<cs'.length:=by omega
  have h1:=d2 k v cs'[k] (by rw [←e];simp) (List.getElem?_eq_getElem hk')
  have h2:=G.cell t true x' cs'[k] (by rw [henc];exact List.getElem_mem hk')
  rcases h2 with ⟨y,e2,hy⟩|⟨q,t',ys,e2,_⟩
  ·rw [e2] at h1
   cases h1
   exact hy
  ·rw [e2] at h1
   cases h1 with
   |fr _ _ _ _ h _=>cases h<;>rfl
   |own _ _ _ _ h=>
    rcases h.inv with ⟨⟨A,rfl⟩,_⟩|⟨b3,off3,c3',g3,B3,rfl,_⟩<;>rfl
 obtain ⟨w2,hrun,hW⟩:=storeCells_ok (P:=P) (b:=b) (base:=off) vs2.toList 0 w1 (fun k hk=>by
  obtain ⟨h1,h2,_⟩:=mine k (by omega)
  rw [Nat.zero_add]
  exact ⟨h1,h2⟩) one2
 rw [Nat.add_zero] at hW
 have hst:(Instr.storeAt t (.pointer (some ⟨b,off,none⟩)) (.agg vs2)).run P w1= .ok () w2:=by
  obtain ⟨j,hj1,hj2,_⟩:=K.info t i hi
  simp only [Instr.storeAt,Instr.sureAddr,storeVar,Pure.pure,Bind.bind,Sem.bind]
  rw [run_sizeOf hj1]
  have: ¬((Value.agg vs2).cells.size≠j.size):=by
   show ¬(vs2.size≠j.size)
   have:vs2.size=vs2.toList.length:=by simp
   omega
  rw [if_neg this]
  exact hrun
 have agree: ∀ {Q:Set2},(∀k,k<szOf E t→ ¬Q b (off+k))→ ∀b' j,Q b' j→w2.cell? ⟨b',j,none⟩=w1.cell? ⟨b',j,none⟩:=fun {Q} hq b' j h=>by
  refine hW.out _ _ fun ⟨e1,e2,e3⟩=> ?_
  subst e1
  refine hq (j-off) (by omega) ?_
  rw [show off+(j-off)=j by omega]
  exact h
 obtain ⟨B3,hB3⟩: ∃B3:Nat→Set2,∀k b j,B3 k b j↔B2 k b j:=⟨B2,fun _ _ _=>Iff.rfl⟩
 have fresh:Fresh E F2 w1 true vs2.toList cs' B3:=by
  refine ⟨by simp [d1],one2,fun k v a e1 e2 e3=> ?_,fun k v t' ys e1 e2=> ?_,fun k k' b' j h1 h2=>d3 _ _ _ _ ((hB3 _ _ _).1 h1) ((hB3 _ _ _).1 h2),fun k b' j h=> ?_⟩
  ·have h1:=d2 k v a (by simpa using e1) e2
   have h2:=G.cell t true x' a (by rw [henc];exact List.mem_of_getElem? e2)
   rcases h2 with ⟨y,rfl,hy⟩|⟨q,t',ys,rfl,_⟩
   ·cases h1
    exact .v _
   ·cases h1 with
    |fr _ _ _ _ h _=>exact h
    |own _ _ _ _ h=>exact absurd trivial e3
  ·have h1:=d2 k v _ (by simpa using e1) e2
   cases h1 with
   |own _ _ _ _ h=>exact h.congr fun b' j=>hB3 _ _ _
  ·have h:=(hB3 _ _ _).1 h
   have hk:=(d4 k b' j h).1
   have e2:cs'[k]? =some cs'[k]:=List.getElem?_eq_getElem hk
   have hk2:k<vs2.size:=by omega
   have h1:=d2 k _ _ (Array.getElem?_eq_getElem hk2) e2
   generalize vs2[k]=u at h1
   have h2:=G.cell t true x' cs'[k] (by rw [henc];exact List.getElem_mem hk)
   rcases h2 with ⟨y,e3,hy⟩|⟨q,t',ys,e3,_⟩
   ·rw [e3] at h1
    cases h1 with
    |v _ _ hno=>exact absurd h (hno _ _)
   ·rw [e3] at h1
    cases q with
    |false=>
     cases h1 with
     |fr _ _ _ _ _ hno=>exact absurd h (hno _ _)
    |true=>exact ⟨t',ys,by rw [e2,e3]⟩
 have sB: ∀k b' j,B3 k b' j→S2 b' j:=fun k b' j h=>(d4 k b' j ((hB3 _ _ _).1 h)).2
 have fresh2:Fresh E F2 w2 true vs2.toList cs' B3:=fresh.stable G (fun b' j h=>⟨h,agree (fun k hk=>(mine k hk).2.2.1) _ _ h⟩) fun k b' j h=>⟨agree (Q:=B3 k) (fun k2 hk h=>(mine k2 hk).2.2.2 (sB _ _ _ h)) _ _ h,hW.fro _ _,fun h=>h⟩
 obtain ⟨S3,hS3⟩: ∃S3:Set2,∀b' j',S3 b' j'↔(b'=b∧off≤j'∧j'<off+1*szOf E t)∨ ∃i o,(if i=0 then B3 o else fun _ _=>False) b' j':=⟨fun b' j'=>(b'=b∧off≤j'∧j'<off+1*szOf E t)∨ ∃i o,(if i=0 then B3 o else fun _ _=>False) b' j',fun _ _=>Iff.rfl⟩
 have zero: ∀(i:Nat) y,[x'][i]? =some y→i=0∧y=x':=fun i y e=>by
  cases i with
  |zero=>cases e;exact ⟨rfl,rfl⟩
  |succ i=>simp at e
 have gv: ∀o,o<szOf E t→vs2.toList[o]? =some (vs2.toList.getD o undef):=fun o ho=>by
  rw [List.getD_eq_getElem?_getD,List.getElem?_eq_getElem (by omega)]
  rfl
 have own3:Own E F2 w2 true (.slice (some ⟨b,off,none⟩) 1 1) t [x'] S3:=by
  refine OwnR.toOwn (xs:=[x']) (g:=fun _ o=>vs2.toList.getD o undef) (B:=fun i o=>if i=0 then B3 o else fun _ _=>False) ⟨Nat.le_refl _,fun j hj=> ?_,fun i y o a e1 e2=> ?_,fun i y o a e1 e2 e3=> ?_,fun i y o t' ys e1 e2=> ?_,fun i o i' o' b' j' h1 h2=> ?_,fun i o j hj h=> ?_,fun i o b' j' h=> ?_,hS3⟩
  ·have hj':j<szOf E t:=by omega
   have:=gv j hj'
   exact ⟨⟨_,hW.inn j _ this⟩,by rw [hW.fro];exact (mine j hj').2.1,(mine j hj').2.2.1⟩
  ·obtain ⟨rfl,rfl⟩:=zero i y e1
   have ho:o<szOf E t:=by rw [←G.len t true y];exact get_lt e2
   have:=hW.inn o _ (gv o ho)
   simpa using this
  ·obtain ⟨rfl,rfl⟩:=zero i y e1
   have ho:o<szOf E t:=by rw [←G.len t true y];exact get_lt e2
   exact fresh2.rep o _ a (gv o ho) (by rw [←henc];exact e2) e3
  ·obtain ⟨rfl,rfl⟩:=zero i y e1
   have ho:o<szOf E t:=by rw [←G.len t true y];exact get_lt e2
   have:=fresh2.own o _ t' ys (gv o ho) (by rw [←henc];exact e2)
   simpa using this
  ·by_cases hi0:i=0
   ·by_cases hi1:i'=0
    ·rw [if_pos hi0] at h1
     rw [if_pos hi1] at h2
     exact ⟨hi0.trans hi1.symm,fresh2.dj _ _ _ _ h1 h2⟩
    ·rw [if_neg hi1] at h2;exact h2.elim
   ·rw [if_neg hi0] at h1;exact h1.elim
  ·by_cases hi0:i=0
   ·rw [if_pos hi0] at h
    exact (mine j (by omega)).2.2.2 (sB _ _ _ h)
   ·rw [if_neg hi0] at h;exact h
  ·by_cases hi0:i=0
   ·rw [if_pos hi0] at h
    obtain ⟨t',ys,e2⟩:=fresh2.rg o b' j' h
    exact ⟨x',t',ys,by rw [hi0];rfl,by rw [henc];exact e2⟩
   ·rw [if_neg hi0] at h;exact h.elim
 refine ⟨w2,hst,F2,S3,?_,c1,fun b' j h=> ?_,fun b' j h=>by rw [hW.size];exact c3 _ _ h,own3,fun b' j h=> ?_⟩
 ·refine (hK.more rows1).wrote hW fun j h1 h2=> .inl ((R.iff _ _).2 (.inl ⟨rfl,h1,?_⟩))
  omega
 ·rcases c2 _ _ h with h|h|h
  ·exact .inl h
  ·exact .inr (.inl h)
  ·exact .inr (.inr (rows1 _ _ h))
 ·rcases (hS3 _ _).1 h with h|⟨i,o,h⟩
  ·exact .inr ((R.iff _ _).2 (.inl h))
  ·by_cases hi0:i=0
   ·rw [if_pos hi0] at h
    rcases c5 _ _ (sB _ _ _ h) with h|h
    ·exact .inl h
    ·exact .inr (rows1 _ _ h)
   ·rw [if_neg hi0] at h;exact h.elim
theorem fuse_ok (K:TbOk E P) (G:Good E) (I:Inv E X W0 F w hp vals sets) {r k:Nat} {p:Path} {R:Root Ty} (hR:root hp r=some R) (hm:R.m=true) {row:Row Ty} (hnav:nav E R.m R.t R.xs p=some row) {pv:Value} (hp0:VRep E F w hp vals pv (.ptr r p k 0))
  {i:TI} (hi:E.ti row.t=some i) (hb:isAggD i.d=true) (hn:(match i.d with| .other=>false|_=>true)=true) (hsz:i.sz=szOf E row.t) {f:FuncId} {cs' outs:List (AV Ty)} (hS:CallOk E P f [.agg ((E.cod row.t).enc true (row.xs.getD k (E.cod row.t).zero))] (.agg cs') outs)
  (hg:giftA (.agg ((E.cod row.t).enc true (row.xs.getD k (E.cod row.t).zero)))=true) {x':Ty row.t} (hx':(E.cod row.t).dec true cs'=some x') {xs':List (Ty R.t)} (hupd:upd E R.m R.t R.xs p (setE k row.t x')=some xs'):
  ∃v1,(Instr.loadAt row.t pv).run P w= .ok v1 w∧Calls P f #[v1] w fun e w1=> ∃v2,e= .returned v2∧ ∃w2,(Instr.storeAt row.t pv v2).run P w1= .ok () w2∧
   ∃(F':Set2) (sets':Nat→Set2),Inv E X W0 F' w2 (hp.set r (some ⟨R.t,R.m,xs'⟩)) vals sets'∧(∀u a,VRep E F w hp vals u a→VRep E F' w2 (hp.set r (some ⟨R.t,R.m,xs'⟩)) vals u (killA [(r,p.length+1)] a))∧Grow X W0 F F':=by
 obtain ⟨R2,b,off,c,row2,a1,a2,a3,a4⟩:=hp0.ptr'
 rw [hR] at a1
 cases a1
 have hrow:row=row2:=Option.some.inj (hnav.symm.trans a2.nav)
 subst hrow
 have hx:row.xs[k]? =some row.xs[k]:=List.getElem?_eq_getElem a3
 rw [getD_of hx] at hS hg
 generalize row.xs[k]=x at hx hS hg
 have hOr:=I.H.own r R hR
 obtain ⟨S',o1,o2,o3⟩:=focusF G p hOr a2
 obtain ⟨S1,e1,e2,e3⟩:=elem_focus G o1 hx
 have hlr:=root_lt hR
 rw [Nat.add_zero] at a4
 subst a4
 have e1':Own E F w true (.slice (some ⟨b,off+k*szOf E row.t,none⟩) 1 1) row.t [x] S1:=hm▸e1
 obtain ⟨v1,hl,hc⟩:=fuse_box K G hi hb hn hsz e1' I.fb hS hg hx'
 refine ⟨v1,hl,hc.mono ?_⟩
 rintro e w1 ⟨v2,rfl,w2,hst,F2,S3,hK,g1,g2,g3,own3,s3⟩
 refine ⟨v2,rfl,w2,hst,F2,fun q=>if q=r then (fun b' j=>(sets r b' j∧ ¬S' b' j)∨((S' b' j∧ ¬S1 b' j)∨S3 b' j)) else sets q,?_⟩
 have kc: ∀b' j,b'<w.heap.size→ ¬S1 b' j→w2.cell? ⟨b',j,none⟩=w.cell? ⟨b',j,none⟩∧w2.frozen? ⟨b',j,none⟩=w.frozen? ⟨b',j,none⟩:=fun b' j hb hn=>hK.cell b' j hb hn
 have xF: ∀b' j,F b' j→ ¬S1 b' j:=fun b' j hF h=>(e1.free _ _ h).2.2 hF
 have rlt: ∀b' j,sets r b' j→b'<w.heap.size:=fun b' j s=>I.lt hR s
 have fk: ∀b' j,F b' j→F2 b' j∧w2.cell? ⟨b',j,none⟩=w.cell? ⟨b',j,none⟩:=fun b' j h=>⟨g1 _ _ h,(kc b' j (I.fb _ _ h) (xF _ _ h)).1⟩
 have fd: ∀b' j,sets r b' j→ ¬S1 b' j→F2 b' j→F b' j:=fun b' j s n h=>by
  rcases g2 _ _ h with h|h|h
  ·exact h
  ·have:=rlt _ _ s;omega
  ·exact absurd h n
 have s3': ∀b' j,S3 b' j→sets r b' j→S1 b' j:=fun b' j h s=>by
  rcases s3 _ _ h with h|h
  ·have:=rlt _ _ s;omega
  ·exact h
 have own3':Own E F2 w2 R.m (.slice (some ⟨b,off+k*szOf E row.t,none⟩) 1 1) row.t [x'] S3:=by rw [hm];exact own3
 have row3:=e3 w2 F2 x' S3 own3' (fun b' j s=>kc _ _ (rlt _ _ (o2 _ _ s.1)) s.2) fk (fun b' j s n h=>fd _ _ (o2 _ _ s) n h) (fun b' j h s=>s3' _ _ h (o2 _ _ s))
 have hf:setE k row.t x' row.t row.xs=some (row.xs.set k x'):=by
  unfold setE castL
  rw [dif_pos rfl]
 have hz:(row.xs.set k x').length=row.xs.length:=List.length_set
 obtain ⟨r3,r4⟩:=o3 w2 F2 (row.xs.set k x') _ (setE k row.t x') xs' row3 hz (fun b' j s=>kc _ _ (rlt _ _ s.1) fun h=>s.2 (e2 _ _ h)) fk (fun b' j s n h=>fd _ _ s (fun h'=>n (e2 _ _ h')) h) (fun b' j h s=>by
  rcases h with h|h
  ·exact h.1
  ·exact e2 _ _ (s3' _ _ h s)) hf hupd
 have rt3: ∀q,root (hp.set r (some ⟨R.t,R.m,xs'⟩)) q=if r=q then some ⟨R.t,R.m,xs'⟩ else root hp q:=fun q=>by
  rw [root_set]
  by_cases e:r=q
  ·rw [if_pos e,if_pos e,if_pos hlr]
  ·rw [if_neg e,if_neg e]
 have S4r: ∀b' j,((sets r b' j∧ ¬S' b' j)∨((S' b' j∧ ¬S1 b' j)∨S3 b' j))→sets r b' j∨w.heap.size≤b':=fun b' j h=>by
  rcases h with h|h|h
  ·exact .inl h.1
  ·exact .inl (o2 _ _ h.1)
  ·rcases s3 _ _ h with h|h
   ·exact .inr h
   ·exact .inl (o2 _ _ (e2 _ _ h))
 have far: ∀q Q b' j,r≠q→root hp q=some Q→sets q b' j→ ¬S1 b' j:=fun q Q b' j hne hq s h=>hne (I.H.dj _ _ _ _ hR hq b' j (o2 _ _ (e2 _ _ h)) s)
 have K':Inv E X W0 F2 w2 (hp.set r (some ⟨R.t,R.m,xs'⟩)) vals (fun q=>if q=r then (fun b' j=>(sets r b' j∧ ¬S' b' j)∨((S' b' j∧ ¬S1 b' j)∨S3 b' j)) else sets q):=by
  refine ⟨⟨fun q Q h=> ?_,fun q q' Q Q' h h' b' j s s'=> ?_⟩,g3,fun q Q b' j h s=> ?_,I.keep.trans hK fun b' j h=>I.lim r R b' j hR (o2 _ _ (e2 _ _ h))⟩
  ·rw [rt3] at h
   split at h
   ·rename_i e
    subst e
    cases h
    simp only [if_true]
    exact r3
   ·rename_i hne
    rw [if_neg (Ne.symm hne)]
    refine (I.H.own q Q h).stable G fk (fun b' j s=>kc _ _ (I.lt h s) (far q Q b' j hne h s)) (fun b' j s hf=> ?_)
    rcases g2 _ _ hf with h'|h'|h'
    ·exact h'
    ·have:=I.lt h s;omega
    ·exact absurd h' (far q Q b' j hne h s)
  ·rw [rt3] at h h'
   by_cases c1:r=q<;>by_cases c2:r=q'
   ·exact c1.symm.trans c2
   ·rw [if_neg c2] at h'
    simp only [if_pos c1.symm] at s
    rw [if_neg (Ne.symm c2)] at s'
    exfalso
    rcases S4r _ _ s with s|s
    ·exact c2 (I.H.dj _ _ _ _ hR h' b' j s s')
    ·have:=I.lt h' s';omega
   ·rw [if_neg c1] at h
    simp only [if_pos c2.symm] at s'
    rw [if_neg (Ne.symm c1)] at s
    exfalso
    rcases S4r _ _ s' with s'|s'
    ·exact c1 (I.H.dj _ _ _ _ hR h b' j s' s)
    ·have:=I.lt h s;omega
   ·rw [if_neg c1] at h
    rw [if_neg c2] at h'
    rw [if_neg (Ne.symm c1)] at s
    rw [if_neg (Ne.symm c2)] at s'
    exact I.H.dj _ _ _ _ h h' b' j s s'
  ·rw [rt3] at h
   split at h
   ·rename_i e
    subst e
    simp only [if_true] at s
    rcases S4r _ _ s with s|s
    ·exact I.lim r R _ _ hR s
    ·have:=I.keep.size;exact .inr (by omega)
   ·rename_i hne
    rw [if_neg (Ne.symm hne)] at s
    exact I.lim q Q _ _ h s
 refine ⟨K',fun u a hu=> ?_,g1,fun b' j h=> ?_⟩
 ·have stay: ∀(pt:Path) u2 row2,¬p.length+1≤pt.length→Loc E w R.m (vals r) R.t R.xs pt u2 row2→ ∃zs',Loc E w2 R.m (vals r) R.t xs' pt u2 ⟨row2.t,zs'⟩∧zs'.length=row2.xs.length:=fun pt u2 row2 hn hl=>
   Loc.keep G p hOr a2 o1 (fun b' j s n=>(kc _ _ (rlt _ _ s) fun h=>n (e2 _ _ h)).1) hupd hf hz pt hl (by omega)
  refine VRep.kill fk (fun v a h=>h.stable fk) (fun v q pt vw fl hh h=> ?_) (fun v q pt i' o' hh h=> ?_) hu
  ·obtain ⟨h5,h6⟩:=hit_cons hh
   obtain ⟨Q,u2,row2,g1',g2',g3'⟩:=h.ref'
   by_cases e:q=r
   ·subst e
    rw [hR] at g1'
    cases g1'
    obtain ⟨zs',k1,k2⟩:=stay pt u2 row2 (fun e=>h6 ⟨rfl,e⟩) g2'
    exact .ref q pt vw fl v ⟨R.t,R.m,xs'⟩ u2 ⟨row2.t,zs'⟩ (by rw [rt3,if_pos rfl]) k1 (by rw [k2];exact g3')
   ·exact .ref q pt vw fl v Q u2 row2 (by rw [rt3,if_neg (Ne.symm e)];exact g1') (g2'.stable (I.H.own q Q g1') G fun b' j s=>(kc _ _ (I.lt g1' s) (far q Q b' j (Ne.symm e) g1' s)).1) g3'
  ·obtain ⟨h5,h6⟩:=hit_cons hh
   obtain ⟨Q,b2,off2,c2,row2,g1',g2',g3',rfl⟩:=h.ptr'
   by_cases e:q=r
   ·subst e
    rw [hR] at g1'
    cases g1'
    obtain ⟨zs',k1,k2⟩:=stay pt _ row2 (fun e=>h6 ⟨rfl,e⟩) g2'
    exact .ptr q pt i' o' ⟨R.t,R.m,xs'⟩ b2 off2 c2 ⟨row2.t,zs'⟩ (by rw [rt3,if_pos rfl]) (by rw [k2];exact k1) (by rw [k2];exact g3')
   ·exact .ptr q pt i' o' Q b2 off2 c2 row2 (by rw [rt3,if_neg (Ne.symm e)];exact g1') (g2'.stable (I.H.own q Q g1') G fun b' j s=>(kc _ _ (I.lt g1' s) (far q Q b' j (Ne.symm e) g1' s)).1) g3'
 ·rcases g2 _ _ h with h|h|h
  ·exact .inl h
  ·have:=I.keep.size;exact .inr (.inr (by omega))
  ·exact .inr (I.lim r R b' j hR (o2 _ _ (e2 _ _ h)))
end
end Go.Proofs.Ytggibjbcbicpjaa.Ev
