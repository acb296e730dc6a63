/- The evaluator, what it gives of the functions that are called, and the plain law: part 1 of 6. -/
import Derived.WalkKit
import Derived.Below
import Derived.Orders
import Derived.KernelRfl
namespace Go.Proofs.Ytggibjbcbicpjaa.Ev
open Go
set_option linter.unusedVariables false
abbrev Path:=List (Nat×Nat)
inductive AV (Ty:Nat→Type) where
 |v (x:Value)
 |sl (own:Bool) (t:Nat) (xs:List (Ty t))
 |ref (r:Nat) (p:Path) (vw:Option (Nat×Nat)) (full:Bool)
 |ptr (r:Nat) (p:Path) (i o:Nat)
 |rp (t:Nat) (xs:List (Ty t)) (i o:Nat)
 |box (m:Bool) (t:Nat) (x:Ty t)
 |agg (cs:List (AV Ty))
 |tup (cs:List (AV Ty))
 |ext (r:Nat) (p:Path) (t:Nat) (xs:List (Ty t))
 |mp (kd:Option IntKind) (q:IntKind) (kv:List (Value×Int))
 |vb (cs:List (AV Ty))
 |dead
instance {Ty:Nat→Type}:Inhabited (AV Ty):=⟨.dead⟩
structure Cod (Ty:Nat→Type) (t:Nat) where
 sz:Nat
 zero:Ty t
 enc:Bool→Ty t→List (AV Ty)
 dec:Bool→List (AV Ty)→Option (Ty t)
inductive D where
 |int (k:IntKind)
 |bool
 |str
 |slice (e:Nat)
 |struct (fs:List (Nat×Nat))
 |arr (n e:Nat)
 |ptr (e:Nat)
 |other
structure TI where
 sz:Nat
 bytes:Nat
 d:D
structure Tb (Ty:Nat→Type) where
 cod:(t:Nat)→Cod Ty t
 ti:Nat→Option TI
 has:Nat→Bool
 flat:Nat→Bool
 /-- All that hangs on an element is its own. -/
 sole:Nat→Bool
 /-- Maps: kinds of key and element. -/
 maps:Nat→Option (Option IntKind×IntKind)
inductive T (α:Type) where
 |ret (a:α)
 |ite (c:Prop) (d:Decidable c) (x y:T α)
 |fail
def T.bind {α β:Type}:T α→(α→T β)→T β
 | .ret a,f=>f a
 | .ite c d x y,f=> .ite c d (x.bind f) (y.bind f)
 | .fail,_=> .fail
def T.run {α β:Type}:T α→(α→Option β)→Option β
 | .ret a,k=>k a
 | .ite c d x y,k=> @_root_.ite _ c d (x.run k) (y.run k)
 | .fail,_=>none
def T.val {α:Type}:T α→Option α
 | .ret a=>some a
 | .ite c d x y=> @_root_.ite _ c d x.val y.val
 | .fail=>none
theorem T.run_eq {α β:Type} (t:T α) (k:α→Option β) {r:β}:t.run k=some r↔ ∃a,t.val=some a∧k a=some r:=by
 induction t with
 |ret a=>simp [T.run,T.val]
 |ite c d x y ih1 ih2=>simp only [T.run,T.val];split<;>assumption
 |fail=>simp [T.run,T.val]
theorem T.val_bind {α β:Type} (t:T α) (f:α→T β) {r:β}:(t.bind f).val=some r↔ ∃a,t.val=some a∧(f a).val=some r:=by
 induction t with
 |ret a=>simp [T.bind,T.val]
 |ite c d x y ih1 ih2=>simp only [T.bind,T.val];split<;>assumption
 |fail=>simp [T.bind,T.val]
def T.opt {α:Type}:Option α→T α
 |some a=> .ret a
 |none=> .fail
structure Root (Ty:Nat→Type) where
 t:Nat
 m:Bool
 xs:List (Ty t)
abbrev Heap (Ty:Nat→Type):=List (Option (Root Ty))
structure St (Ty:Nat→Type) where
 fr:List (Nat×AV Ty)
 hp:Heap Ty
section
variable {Ty:Nat→Type} (E:Tb Ty)
def look:List (Nat×AV Ty)→Nat→AV Ty
 |[],_=> .dead
 |(j,a) :: l,i=>match Nat.beq i j with
  |true=>a
  |false=>look l i
def root (h:Heap Ty) (r:Nat):Option (Root Ty):=match h[r]? with
 |some x=>x
 |none=>none
def cellOf (m:Bool) (t:Nat) (xs:List (Ty t)) (i o:Nat):AV Ty:=((E.cod t).enc m (xs.getD i (E.cod t).zero)).getD o .dead
structure Row (Ty:Nat→Type) where
 t:Nat
 xs:List (Ty t)
def nav (m:Bool):(t:Nat)→List (Ty t)→Path→Option (Row Ty)
 |t,xs,[]=>some ⟨t,xs⟩
 |t,xs,(i,o) :: p=>match cellOf E m t xs i o with
  | .sl _ t' ys=>nav m t' ys p
  |_=>none
def setCell (m:Bool) (t:Nat) (xs:List (Ty t)) (i o:Nat) (a:AV Ty):Option (List (Ty t)):=
 match (E.cod t).dec m (((E.cod t).enc m (xs.getD i (E.cod t).zero)).set o a) with
 |some x=>some (xs.set i x)
 |none=>none
def upd (m:Bool):(t:Nat)→List (Ty t)→Path→((t:Nat)→List (Ty t)→Option (List (Ty t)))→Option (List (Ty t))
 |t,xs,[],f=>f t xs
 |t,xs,(i,o) :: p,f=>match cellOf E m t xs i o with
  | .sl b t' ys=>match upd m t' ys p f with
   |some ys'=>setCell E m t xs i o (.sl b t' ys')
   |none=>none
  |_=>none
def view {t:Nat} (xs:List (Ty t)):Option (Nat×Nat)→List (Ty t)
 |none=>xs
 |some (o,n)=>(xs.drop o).take n
def vlen {t:Nat} (xs:List (Ty t)):Option (Nat×Nat)→Nat
 |none=>xs.length
 |some (_,n)=>n
def voff:Option (Nat×Nat)→Nat
 |none=>0
 |some (o,_)=>o
def rowAt (h:Heap Ty) (r:Nat) (p:Path):Option (Bool×Row Ty):=match root h r with
 |some R=>match nav E R.m R.t R.xs p with
  |some w=>some (R.m,w)
  |none=>none
 |none=>none
def seen (r:Nat) (p:Path) (i o:Nat):AV Ty→AV Ty
 | .sl true _ _=> .ref r (p++[(i,o)]) none false
 |a=>a
def hit (ks:List (Nat×Nat)) (r:Nat) (p:Path):Bool:=match ks with
 |[]=>false
 |k :: l=>match Nat.beq k.1 r && Nat.ble k.2 p.length with
  |true=>true
  |false=>hit l r p
def kill0 (ks:List (Nat×Nat)):AV Ty→AV Ty
 | .ref r p vw f=>match hit ks r p with
  |true=> .dead
  |false=> .ref r p vw f
 | .ptr r p i o=>match hit ks r p with
  |true=> .dead
  |false=> .ptr r p i o
 | .agg _=> .dead
 | .tup _=> .dead
 | .ext _ _ _ _=> .dead
 | .vb _=> .dead
 |a=>a
def kill1 (ks:List (Nat×Nat)):AV Ty→AV Ty
 | .agg cs=> .agg (cs.map (kill0 ks))
 | .vb cs=> .vb (cs.map (kill0 ks))
 |a=>kill0 ks a
def killB (ks:List (Nat×Nat)):AV Ty→AV Ty
 | .tup cs=> .tup (cs.map (kill1 ks))
 |a=>kill1 ks a
def killA (ks:List (Nat×Nat)) (a:AV Ty):AV Ty:=match ks with
 |[]=>a
 |k :: l=>killB (k :: l) a
def killF (ks:List (Nat×Nat)) (fr:List (Nat×AV Ty)):List (Nat×AV Ty):=match ks with
 |[]=>fr
 |k :: l=>fr.map fun (j,a)=>(j,killA (k :: l) a)
end
end Go.Proofs.Ytggibjbcbicpjaa.Ev
namespace Go.Proofs.Ytggibjbcbicpjaa.Ev
open Go
set_option linter.unusedVariables false
abbrev Set2:=Nat→Nat→Prop
def Agree (S:Set2) (w w':World):Prop:= ∀b j,S b j→w'.cell? ⟨b,j,none⟩=w.cell? ⟨b,j,none⟩∧w'.frozen? ⟨b,j,none⟩=w.frozen? ⟨b,j,none⟩
section
variable {Ty:Nat→Type} (E:Tb Ty)
abbrev szOf (t:Nat):Nat:=(E.cod t).sz
inductive Rep (F:Set2) (w:World):Value→AV Ty→Prop
 |v (x:Value):Rep F w x (.v x)
 |nil (A:Option Addr) (c t:Nat):Rep F w (.slice A 0 c) (.sl false t [])
 |sl (b off c t:Nat) (xs:List (Ty t)) (g:Nat→Nat→Value):xs.length≤c→
   (∀(i:Nat) x (o:Nat) a,xs[i]? =some x→((E.cod t).enc false x)[o]? =some a→w.cell? ⟨b,off+(i*szOf E t+o),none⟩=some (g i o)∧F b (off+(i*szOf E t+o)))→
   (∀(i:Nat) x (o:Nat) a,xs[i]? =some x→((E.cod t).enc false x)[o]? =some a→Rep F w (g i o) a)→
   Rep F w (.slice (some ⟨b,off,none⟩) xs.length c) (.sl false t xs)
 |rp (b off t:Nat) (xs:List (Ty t)) (i₀ o₀:Nat) (g:Nat→Nat→Value):i₀<xs.length→
   (∀(i:Nat) x (o:Nat) a,xs[i]? =some x→((E.cod t).enc false x)[o]? =some a→w.cell? ⟨b,off+(i*szOf E t+o),none⟩=some (g i o)∧F b (off+(i*szOf E t+o)))→
   (∀(i:Nat) x (o:Nat) a,xs[i]? =some x→((E.cod t).enc false x)[o]? =some a→Rep F w (g i o) a)→
   Rep F w (.pointer (some ⟨b,off+(i₀*szOf E t+o₀),none⟩)) (.rp t xs i₀ o₀)
 |agg (vs:Array Value) (cs:List (AV Ty)):vs.size=cs.length→(∀(i:Nat) v a,vs[i]? =some v→cs[i]? =some a→Rep F w v a)→Rep F w (.agg vs) (.agg cs)
 |tup (vs:Array Value) (cs:List (AV Ty)):vs.size=cs.length→(∀(i:Nat) v a,vs[i]? =some v→cs[i]? =some a→Rep F w v a)→Rep F w (.tuple vs) (.tup cs)
def oneC:Value→Bool
 | .agg _| .tuple _=>false
 |_=>true
def isOwn:AV Ty→Prop
 | .sl true _ _=>True
 |_=>False
inductive Own (F:Set2) (w:World) (m:Bool):Value→(t:Nat)→List (Ty t)→Set2→Prop
 |nil (A:Option Addr) (t:Nat) (S:Set2):(∀b j,¬S b j)→Own F w m (.slice A 0 0) t [] S
 |row (b off c t:Nat) (xs:List (Ty t)) (g:Nat→Nat→Value) (B:Nat→Nat→Set2) (S:Set2):xs.length≤c→
   (∀j,j<c*szOf E t→(∃v,w.cell? ⟨b,off+j,none⟩=some v)∧w.frozen? ⟨b,off+j,none⟩=false∧ ¬F b (off+j))→
   (∀(i:Nat) x (o:Nat) a,xs[i]? =some x→((E.cod t).enc m x)[o]? =some a→w.cell? ⟨b,off+(i*szOf E t+o),none⟩=some (g i o))→
   (∀(i:Nat) x (o:Nat) a,xs[i]? =some x→((E.cod t).enc m x)[o]? =some a→ ¬isOwn a→Rep E F w (g i o) a)→
   (∀(i:Nat) x (o:Nat) t' ys,xs[i]? =some x→((E.cod t).enc m x)[o]? =some (.sl true t' ys)→Own F w m (g i o) t' ys (B i o))→
   (∀i o i' o' b' j',B i o b' j'→B i' o' b' j'→i=i'∧o=o')→
   (∀i o j,j<c*szOf E t→ ¬B i o b (off+j))→
   (∀i o b' j',B i o b' j'→ ∃x t' ys,xs[i]? =some x∧((E.cod t).enc m x)[o]? =some (.sl true t' ys))→
   (∀b' j',S b' j'↔(b'=b∧off≤j'∧j'<off+c*szOf E t)∨ ∃i o,B i o b' j')→
   Own F w m (.slice (some ⟨b,off,none⟩) xs.length c) t xs S
structure Good:Prop where
 len: ∀t m x,((E.cod t).enc m x).length=szOf E t
 cell: ∀t m x a,a∈(E.cod t).enc m x→(∃y:Value,a= .v y∧oneC y=true)∨ ∃q t' ys,a= .sl q t' ys∧(q=true→m=true)
 dec: ∀t m cs x,(E.cod t).dec m cs=some x→(E.cod t).enc m x=cs
 flip: ∀t x (o:Nat) t' ys,((E.cod t).enc true x)[o]? =some (AV.sl true t' ys)→((E.cod t).enc false x)[o]? =some (AV.sl false t' ys)
 flat: ∀t,E.flat t=true→ ∀x,(E.cod t).enc true x=(E.cod t).enc false x∧ ∀m a,a∈(E.cod t).enc m x→ ∃y,a= .v y
 flip': ∀t x (o:Nat) a,((E.cod t).enc true x)[o]? =some a→ ¬isOwn a→((E.cod t).enc false x)[o]? =some a
 sole: ∀t,E.sole t=true→ ∀x a,a∈(E.cod t).enc true x→(∃y,a= .v y)∨ ∃t' ys,a= .sl true t' ys∧E.sole t'=true
variable {E}
theorem Rep.stable {F F':Set2} {w w':World} (h: ∀b j,F b j→F' b j∧w'.cell? ⟨b,j,none⟩=w.cell? ⟨b,j,none⟩) {v:Value} {a:AV Ty} (hr:Rep E F w v a):Rep E F' w' v a:=by
 induction hr with
 |v x=>exact .v x
 |nil A c t=>exact .nil A c t
 |sl b off c t xs g hl hc hr ih=>
  refine .sl b off c t xs g hl (fun i x o a h1 h2=> ?_) ih
  obtain ⟨h3,h4⟩:=hc i x o a h1 h2
  exact ⟨(h _ _ h4).2.trans h3,(h _ _ h4).1⟩
 |rp b off t xs i o g hl hc hr ih=>
  refine .rp b off t xs i o g hl (fun i x o a h1 h2=> ?_) ih
  obtain ⟨h3,h4⟩:=hc i x o a h1 h2
  exact ⟨(h _ _ h4).2.trans h3,(h _ _ h4).1⟩
 |agg vs cs hl hr ih=>exact .agg vs cs hl ih
 |tup vs cs hl hr ih=>exact .tup vs cs hl ih
theorem Good.frozen (G:Good E) {t:Nat} {x:Ty t} {o t':Nat} {ys:List (Ty t')} (h:((E.cod t).enc false x)[o]? =some (.sl true t' ys)):False:=by
 rcases G.cell _ _ _ _ (List.mem_of_getElem? h) with ⟨y,hy,_⟩|⟨q,t'',ys',hy,hq⟩
 ·cases hy
 ·cases hy;cases hq rfl
theorem lt_cells {i n c z o:Nat} (hi:i<n) (hn:n≤c) (ho:o<z):i*z+o<c*z:=by
 have h1:(i+1)*z≤c*z:=Nat.mul_le_mul_right z (by omega)
 rw [Nat.succ_mul] at h1
 omega
theorem get_lt {α:Type} {l:List α} {i:Nat} {a:α} (h:l[i]? =some a):i<l.length:=by
 rcases Nat.lt_or_ge i l.length with h'|h'
 ·exact h'
 ·rw [List.getElem?_eq_none h'] at h;cases h
theorem Good.lt (G:Good E) {t:Nat} {m:Bool} {xs:List (Ty t)} {c i o:Nat} {x:Ty t} {a:AV Ty} (hl:xs.length≤c) (h1:xs[i]? =some x) (h2:((E.cod t).enc m x)[o]? =some a):i*szOf E t+o<c*szOf E t:=
 lt_cells (get_lt h1) hl (by have:=get_lt h2;rw [G.len] at this;exact this)
theorem Own.stable (G:Good E) {F F':Set2} {w w':World} {m:Bool} (hF: ∀b j,F b j→F' b j∧w'.cell? ⟨b,j,none⟩=w.cell? ⟨b,j,none⟩) {v:Value} {t:Nat} {xs:List (Ty t)} {S:Set2}
  (ho:Own E F w m v t xs S) (hS:Agree S w w') (hd: ∀b j,S b j→F' b j→F b j):Own E F' w' m v t xs S:=by
 induction ho with
 |nil A t S h=>exact .nil A t S h
 |row b off c t xs g B S h1 h2 h3 h4 h5 h6 h7 h8 h9 ih=>
  have hb: ∀j,j<c*szOf E t→S b (off+j):=fun j hj=>(h9 _ _).2 (.inl ⟨rfl,by omega,by omega⟩)
  have hB: ∀i o b' j',B i o b' j'→S b' j':=fun i o b' j' h=>(h9 _ _).2 (.inr ⟨i,o,h⟩)
  refine .row b off c t xs g B S h1 (fun j hj=> ?_) (fun i x o a e1 e2=> ?_) (fun i x o a e1 e2 e3=> ?_) (fun i x o t' ys e1 e2=> ?_) h6 h7 h8 h9
  ·obtain ⟨⟨v,hv⟩,hf,hn⟩:=h2 j hj
   have:=hS _ _ (hb j hj)
   exact ⟨⟨v,this.1.trans hv⟩,this.2.trans hf,fun h=>hn (hd _ _ (hb j hj) h)⟩
  ·have e3:=h3 i x o a e1 e2
   exact ((hS _ _ (hb _ (G.lt h1 e1 e2))).1).trans e3
  ·exact (h4 i x o a e1 e2 e3).stable hF
  ·exact ih i x o t' ys e1 e2 (fun b' j' h=>hS _ _ (hB _ _ _ _ h)) (fun b' j' h=>hd _ _ (hB _ _ _ _ h))
end
end Go.Proofs.Ytggibjbcbicpjaa.Ev
namespace Go.Proofs.Ytggibjbcbicpjaa.Ev
open Go
set_option linter.unusedVariables false
section
variable {Ty:Nat→Type} {E:Tb Ty}
variable (E) in
structure OwnR (F:Set2) (w:World) (m:Bool) (b off c t:Nat) (xs:List (Ty t)) (g:Nat→Nat→Value) (B:Nat→Nat→Set2) (S:Set2):Prop where
 le:xs.length≤c
 cap: ∀j,j<c*szOf E t→(∃v,w.cell? ⟨b,off+j,none⟩=some v)∧w.frozen? ⟨b,off+j,none⟩=false∧ ¬F b (off+j)
 cell: ∀(i:Nat) x (o:Nat) a,xs[i]? =some x→((E.cod t).enc m x)[o]? =some a→w.cell? ⟨b,off+(i*szOf E t+o),none⟩=some (g i o)
 rep: ∀(i:Nat) x (o:Nat) a,xs[i]? =some x→((E.cod t).enc m x)[o]? =some a→ ¬isOwn a→Rep E F w (g i o) a
 own: ∀(i:Nat) x (o:Nat) t' ys,xs[i]? =some x→((E.cod t).enc m x)[o]? =some (.sl true t' ys)→Own E F w m (g i o) t' ys (B i o)
 dj: ∀i o i' o' b' j',B i o b' j'→B i' o' b' j'→i=i'∧o=o'
 dr: ∀i o j,j<c*szOf E t→ ¬B i o b (off+j)
 rg: ∀i o b' j',B i o b' j'→ ∃x t' ys,xs[i]? =some x∧((E.cod t).enc m x)[o]? =some (.sl true t' ys)
 iff: ∀b' j',S b' j'↔(b'=b∧off≤j'∧j'<off+c*szOf E t)∨ ∃i o,B i o b' j'
theorem OwnR.toOwn {F:Set2} {w:World} {m:Bool} {b off c t:Nat} {xs:List (Ty t)} {g:Nat→Nat→Value} {B:Nat→Nat→Set2} {S:Set2} (h:OwnR E F w m b off c t xs g B S):
  Own E F w m (.slice (some ⟨b,off,none⟩) xs.length c) t xs S:= .row b off c t xs g B S h.le h.cap h.cell h.rep h.own h.dj h.dr h.rg h.iff
theorem Own.inv {F:Set2} {w:World} {m:Bool} {v:Value} {t:Nat} {xs:List (Ty t)} {S:Set2} (h:Own E F w m v t xs S):
  ((∃A,v= .slice A 0 0)∧xs=[]∧ ∀b j,¬S b j)∨ ∃b off c g B,v= .slice (some ⟨b,off,none⟩) xs.length c∧OwnR E F w m b off c t xs g B S:=by
 cases h with
 |nil A t S h=>exact .inl ⟨⟨A,rfl⟩,rfl,h⟩
 |row b off c t xs g B S h1 h2 h3 h4 h5 h6 h7 h8 h9=>exact .inr ⟨b,off,c,g,B,rfl,⟨h1,h2,h3,h4,h5,h6,h7,h8,h9⟩⟩
theorem Own.congr {F:Set2} {w:World} {m:Bool} {v:Value} {t:Nat} {xs:List (Ty t)} {S S':Set2} (h:Own E F w m v t xs S) (hs: ∀b j,S' b j↔S b j):Own E F w m v t xs S':=by
 rcases h.inv with ⟨⟨A,rfl⟩,rfl,k⟩|⟨b,off,c,g,B,rfl,k⟩
 ·exact .nil A t S' (fun b j q=>k b j ((hs b j).1 q))
 ·exact OwnR.toOwn ⟨k.le,k.cap,k.cell,k.rep,k.own,k.dj,k.dr,k.rg,fun b' j'=>(hs b' j').trans (k.iff b' j')⟩
theorem OwnR.mem {F:Set2} {w:World} {m:Bool} {b off c t:Nat} {xs:List (Ty t)} {g:Nat→Nat→Value} {B:Nat→Nat→Set2} {S:Set2} (h:OwnR E F w m b off c t xs g B S) {j:Nat} (hj:j<c*szOf E t):S b (off+j):=
 (h.iff _ _).2 (.inl ⟨rfl,by omega,by omega⟩)
theorem OwnR.sub {F:Set2} {w:World} {m:Bool} {b off c t:Nat} {xs:List (Ty t)} {g:Nat→Nat→Value} {B:Nat→Nat→Set2} {S:Set2} (h:OwnR E F w m b off c t xs g B S) {i o b' j':Nat} (k:B i o b' j'):S b' j':=
 (h.iff _ _).2 (.inr ⟨i,o,k⟩)
theorem Own.free {F:Set2} {w:World} {m:Bool} {v:Value} {t:Nat} {xs:List (Ty t)} {S:Set2} (h:Own E F w m v t xs S): ∀b j,S b j→(∃u,w.cell? ⟨b,j,none⟩=some u)∧w.frozen? ⟨b,j,none⟩=false∧ ¬F b j:=by
 induction h with
 |nil A t S h=>intro b j k;exact absurd k (h b j)
 |row b off c t xs g B S h1 h2 h3 h4 h5 h6 h7 h8 h9 ih=>
  intro b' j' k
  rcases (h9 b' j').1 k with ⟨rfl,k1,k2⟩|⟨i,o,k⟩
  ·have:=h2 (j'-off) (by omega)
   rwa [show off+(j'-off)=j' by omega] at this
  ·obtain ⟨x,t',ys,e1,e2⟩:=h8 _ _ _ _ k
   exact ih i x o t' ys e1 e2 b' j' k
variable (E) in
def Loc (w:World) (m:Bool):(v:Value)→(t:Nat)→(xs:List (Ty t))→Path→Value→Row Ty→Prop
 |v,t,xs,[],u,row=>u=v∧row=⟨t,xs⟩
 |v,t,xs,(i,o) :: p,u,row=> ∃b off c x t' ys v',v= .slice (some ⟨b,off,none⟩) xs.length c∧xs[i]? =some x∧((E.cod t).enc m x)[o]? =some (.sl true t' ys)∧
   w.cell? ⟨b,off+(i*szOf E t+o),none⟩=some v'∧Loc w m v' t' ys p u row
theorem getD_of {α:Type} {l:List α} {i:Nat} {a d:α} (h:l[i]? =some a):l.getD i d=a:=by simp [List.getD,h]
theorem cellOf_of {m:Bool} {t:Nat} {xs:List (Ty t)} {i o:Nat} {x:Ty t} {a:AV Ty} (h1:xs[i]? =some x) (h2:((E.cod t).enc m x)[o]? =some a):cellOf E m t xs i o=a:=by
 unfold cellOf
 rw [getD_of h1,getD_of h2]
theorem Loc.nav {w:World} {m:Bool}: ∀ {p:Path} {v:Value} {t:Nat} {xs:List (Ty t)} {u:Value} {row:Row Ty},Loc E w m v t xs p u row→nav E m t xs p=some row
 |[],_,_,_,_,_,⟨_,h⟩=>by rw [h];rfl
 |(i,o) :: p,_,_,_,_,_,⟨b,off,c,x,t',ys,v',_,h1,h2,_,h⟩=>by
  unfold Ev.nav
  rw [cellOf_of h1 h2]
  exact Loc.nav h
theorem setCell_inv (G:Good E) {m:Bool} {t:Nat} {xs xs':List (Ty t)} {i o:Nat} {x:Ty t} {a:AV Ty} (h1:xs[i]? =some x) (h:setCell E m t xs i o a=some xs'):
  ∃x',xs'=xs.set i x'∧(E.cod t).enc m x'=((E.cod t).enc m x).set o a:=by
 unfold setCell at h
 rw [getD_of h1] at h
 split at h
 ·rename_i x' e
  exact ⟨x',(Option.some.inj h).symm,G.dec _ _ _ _ e⟩
 ·cases h
theorem focus (G:Good E) {F:Set2} {w:World} {m:Bool}: ∀(p:Path) {v:Value} {t:Nat} {xs:List (Ty t)} {S:Set2} {u:Value} {row:Row Ty},Own E F w m v t xs S→Loc E w m v t xs p u row→
  ∃S',Own E F w m u row.t row.xs S'∧(∀b j,S' b j→S b j)∧
   ∀(w':World) (ys':List (Ty row.t)) (S3:Set2) (f:(t:Nat)→List (Ty t)→Option (List (Ty t))) (xs':List (Ty t)),Own E F w' m u row.t ys' S3→ys'.length=row.xs.length→
    Agree (fun b j=>S b j∧ ¬S' b j) w w'→(∀b j,F b j→w'.cell? ⟨b,j,none⟩=w.cell? ⟨b,j,none⟩)→(∀b j,S3 b j→S b j→S' b j)→
    f row.t row.xs=some ys'→upd E m t xs p f=some xs'→Own E F w' m v t xs' (fun b j=>(S b j∧ ¬S' b j)∨S3 b j)∧xs'.length=xs.length
 |[],v,t,xs,S,u,row,ho,⟨hu,hr⟩=>by
  subst hu hr
  refine ⟨S,ho,fun _ _ h=>h,fun w' ys' S3 f xs' h1 h2 h3 h4 h5 h6 h7=> ?_⟩
  have e:ys'=xs':=Option.some.inj (h6.symm.trans h7)
  subst e
  exact ⟨h1.congr fun b j=>⟨fun h=>h.elim (fun h=>absurd h.1 h.2) id, .inr⟩,h2⟩
 |(i,o) :: p,v,t,xs,S,u,row,ho,⟨b,off,c,x,t',ys,v',hv,hx,ha,hc,hl⟩=>by
  rcases ho.inv with ⟨_,hnil,_⟩|⟨b0,off0,c0,g,B,hv0,R⟩
  ·rw [hnil] at hx;simp at hx
  ·rw [hv] at hv0
   injection hv0 with e1 e2 e3
   injection e1 with e1
   injection e1 with e1 e4
   subst e1 e4 e3
   have hg:g i o=v':=Option.some.inj ((R.cell i x o _ hx ha).symm.trans hc)
   have hsub:=R.own i x o t' ys hx ha
   rw [hg] at hsub
   obtain ⟨S',hS1,hS2,hS3⟩:=focus G p hsub hl
   refine ⟨S',hS1,fun b' j' h=>R.sub (hS2 _ _ h),fun w' ys' S3 f xs' k1 k2 k3 k4 k5 k6 k7=> ?_⟩
   have hrow: ∀j,j<c*szOf E t→ ¬S' b (off+j):=fun j hj h=>R.dr i o j hj (hS2 _ _ h)
   unfold upd at k7
   rw [cellOf_of hx ha] at k7
   simp only at k7
   split at k7
   ·rename_i ys1 e1
    obtain ⟨x',hxs,hx'⟩:=setCell_inv G hx k7
    obtain ⟨j1,j2⟩:=hS3 w' ys' S3 f ys1 k1 k2 (fun b' j' h=>k3 b' j' ⟨R.sub h.1,h.2⟩) k4 (fun b' j' h3 h=>k5 b' j' h3 (R.sub h)) k6 e1
    subst hxs
    have hi:i<xs.length:=get_lt hx
    have hoo:o<((E.cod t).enc m x).length:=get_lt ha
    have hget: ∀(i2:Nat) x2 (o2:Nat) a2,(xs.set i x')[i2]? =some x2→((E.cod t).enc m x2)[o2]? =some a2→
      (i2=i∧o2=o∧a2= .sl true t' ys1)∨(¬(i2=i∧o2=o)∧ ∃x3,xs[i2]? =some x3∧((E.cod t).enc m x3)[o2]? =some a2):=by
     intro i2 x2 o2 a2 q1 q2
     rw [List.getElem?_set] at q1
     by_cases e:i=i2
     ·subst e
      rw [if_pos rfl,if_pos hi] at q1
      cases q1
      rw [hx',List.getElem?_set] at q2
      by_cases e:o=o2
      ·subst e
       rw [if_pos rfl,if_pos hoo] at q2
       cases q2
       exact .inl ⟨rfl,rfl,rfl⟩
      ·rw [if_neg e] at q2
       exact .inr ⟨fun h=>e h.2.symm,x,hx,q2⟩
     ·rw [if_neg e] at q1
      exact .inr ⟨fun h=>e h.1.symm,x2,q1,q2⟩
    have hself:(xs.set i x')[i]? =some x'∧((E.cod t).enc m x')[o]? =some (.sl true t' ys1):=by
     constructor
     ·rw [List.getElem?_set,if_pos rfl,if_pos hi]
     ·rw [hx',List.getElem?_set,if_pos rfl,if_pos hoo]
    refine ⟨?_,List.length_set⟩
    rw [hv,show xs.length=(xs.set i x').length from List.length_set.symm]
    refine OwnR.toOwn (g:=g) (B:=fun i2 o2 b' j'=>(i2=i∧o2=o∧((B i o b' j'∧ ¬S' b' j')∨S3 b' j'))∨(¬(i2=i∧o2=o)∧B i2 o2 b' j')) ⟨?_,?_,?_,?_,?_,?_,?_,?_,?_⟩
    ·rw [List.length_set];exact R.le
    ·intro j hj
     obtain ⟨⟨v1,h1⟩,h2,h3⟩:=R.cap j hj
     obtain ⟨q1,q2⟩:=k3 b (off+j) ⟨R.mem hj,hrow j hj⟩
     exact ⟨⟨v1,q1.trans h1⟩,q2.trans h2,h3⟩
    ·intro i2 x2 o2 a2 q1 q2
     rcases hget i2 x2 o2 a2 q1 q2 with ⟨rfl,rfl,rfl⟩|⟨_,x3,q3,q4⟩
     ·have hj:=G.lt R.le hx ha
      rw [(k3 b _ ⟨R.mem hj,hrow _ hj⟩).1]
      exact R.cell _ _ _ _ hx ha
     ·have hj:=G.lt R.le q3 q4
      rw [(k3 b _ ⟨R.mem hj,hrow _ hj⟩).1]
      exact R.cell _ _ _ _ q3 q4
    ·intro i2 x2 o2 a2 q1 q2 q5
     rcases hget i2 x2 o2 a2 q1 q2 with ⟨rfl,rfl,rfl⟩|⟨_,x3,q3,q4⟩
     ·exact absurd trivial q5
     ·exact (R.rep _ _ _ _ q3 q4 q5).stable fun b' j' h=>⟨h,k4 _ _ h⟩
    ·intro i2 x2 o2 t2 zs q1 q2
     rcases hget i2 x2 o2 _ q1 q2 with ⟨rfl,rfl,e⟩|⟨hne,x3,q3,q4⟩
     ·cases e
      rw [hg]
      exact j1.congr fun b' j'=>⟨fun h=>h.elim (fun h=>h.2.2) (fun h=>absurd ⟨rfl,rfl⟩ h.1),fun h=> .inl ⟨rfl,rfl,h⟩⟩
     ·refine ((R.own _ _ _ _ _ q3 q4).stable G (fun b' j' h=>⟨h,k4 _ _ h⟩) (fun b' j' h=>k3 b' j' ⟨R.sub h,fun h'=> ?_⟩) (fun b' j' _ h=>h)).congr fun b' j'=>⟨fun h=>h.elim (fun h=>absurd ⟨h.1,h.2.1⟩ hne) (fun h=>h.2),fun h=> .inr ⟨hne,h⟩⟩
      exact hne (R.dj _ _ _ _ _ _ h (hS2 _ _ h'))
    ·intro i1 o1 i2 o2 b' j' q1 q2
     rcases q1 with ⟨rfl,rfl,q1⟩|⟨n1,q1⟩<;>rcases q2 with ⟨rfl,rfl,q2⟩|⟨n2,q2⟩
     ·exact ⟨rfl,rfl⟩
     ·rcases q1 with q1|q1
      ·exact R.dj _ _ _ _ _ _ q1.1 q2
      ·exact R.dj _ _ _ _ _ _ (hS2 _ _ (k5 _ _ q1 (R.sub q2))) q2
     ·rcases q2 with q2|q2
      ·exact R.dj _ _ _ _ _ _ q1 q2.1
      ·exact R.dj _ _ _ _ _ _ q1 (hS2 _ _ (k5 _ _ q2 (R.sub q1)))
     ·exact R.dj _ _ _ _ _ _ q1 q2
    ·intro i2 o2 j hj q
     rcases q with ⟨rfl,rfl,q|q⟩|⟨_,q⟩
     ·exact R.dr _ _ j hj q.1
     ·exact hrow j hj (k5 _ _ q (R.mem hj))
     ·exact R.dr _ _ j hj q
    ·intro i2 o2 b' j' q
     rcases q with ⟨rfl,rfl,_⟩|⟨hne,q⟩
     ·exact ⟨x',t',ys1,hself.1,hself.2⟩
     ·obtain ⟨x3,t3,zs,q3,q4⟩:=R.rg _ _ _ _ q
      by_cases e:i2=i
      ·subst e
       rw [hx] at q3
       cases q3
       refine ⟨x',t3,zs,hself.1,?_⟩
       rw [hx',List.getElem?_set,if_neg (fun e=>hne ⟨rfl,e.symm⟩)]
       exact q4
      ·refine ⟨x3,t3,zs,?_,q4⟩
       rw [List.getElem?_set,if_neg (fun h=>e h.symm)]
       exact q3
    ·intro b' j'
     constructor
     ·rintro (⟨h1,h2⟩|h)
      ·rcases (R.iff b' j').1 h1 with h|⟨i2,o2,h⟩
       ·exact .inl h
       ·by_cases e:i2=i∧o2=o
        ·obtain ⟨rfl,rfl⟩:=e
         exact .inr ⟨i2,o2, .inl ⟨rfl,rfl, .inl ⟨h,h2⟩⟩⟩
        ·exact .inr ⟨i2,o2, .inr ⟨e,h⟩⟩
      ·exact .inr ⟨i,o, .inl ⟨rfl,rfl, .inr h⟩⟩
     ·rintro (h|⟨i2,o2,⟨rfl,rfl,h|h⟩|⟨hne,h⟩⟩)
      ·obtain ⟨rfl,h1,h2⟩:=h
       have:=hrow (j'-off) (by omega)
       rw [show off+(j'-off)=j' by omega] at this
       exact .inl ⟨(R.iff _ _).2 (.inl ⟨rfl,h1,h2⟩),this⟩
      ·exact .inl ⟨R.sub h.1,h.2⟩
      ·exact .inr h
      ·exact .inl ⟨R.sub h,fun h'=>hne (R.dj _ _ _ _ _ _ h (hS2 _ _ h'))⟩
   ·cases k7
theorem Own.rep (G:Good E) {F F':Set2} {w:World} {m:Bool} {v:Value} {t:Nat} {xs:List (Ty t)} {S:Set2} (h:Own E F w m v t xs S) (hF: ∀b j,F b j→F' b j) (hS: ∀b j,S b j→F' b j):
  Rep E F' w v (.sl false t xs):=by
 induction h with
 |nil A t S h=>exact .nil A 0 t
 |row b off c t xs g B S h1 h2 h3 h4 h5 h6 h7 h8 h9 ih=>
  have key: ∀(i:Nat) x (o:Nat) a,xs[i]? =some x→((E.cod t).enc false x)[o]? =some a→ ∃a',((E.cod t).enc m x)[o]? =some a'∧((¬isOwn a'∧a=a')∨ ∃t' ys,a'= .sl true t' ys∧a= .sl false t' ys):=by
   intro i x o a e1 e2
   have ho:o<((E.cod t).enc m x).length:=by rw [G.len,←G.len t false x];exact get_lt e2
   obtain ⟨a',ha'⟩: ∃a',((E.cod t).enc m x)[o]? =some a':=⟨_,List.getElem?_eq_getElem ho⟩
   refine ⟨a',ha',?_⟩
   cases m with
   |false=>
    rw [e2] at ha';cases ha'
    refine .inl ⟨fun h=> ?_,rfl⟩
    cases a<;>try exact h
    rename_i q _ _
    cases q
    ·exact h
    ·exact G.frozen e2
   |true=>
    rcases G.cell t true x a' (List.mem_of_getElem? ha') with ⟨y,hy,_⟩|⟨q,t',ys,hy,_⟩
    ·subst hy
     have hn: ¬isOwn (AV.v y:AV Ty):=fun h=>h
     have:=G.flip' t x o _ ha' hn
     exact .inl ⟨hn,Option.some.inj (e2.symm.trans this)⟩
    ·subst hy
     cases q with
     |true=>
      have:=G.flip t x o _ _ ha'
      exact .inr ⟨t',ys,rfl,Option.some.inj (e2.symm.trans this)⟩
     |false=>
      have hn: ¬isOwn (AV.sl false t' ys:AV Ty):=fun h=>h
      have:=G.flip' t x o _ ha' hn
      exact .inl ⟨hn,Option.some.inj (e2.symm.trans this)⟩
  refine .sl b off c t xs g h1 (fun i x o a e1 e2=> ?_) (fun i x o a e1 e2=> ?_)
  ·obtain ⟨a',e3,_⟩:=key i x o a e1 e2
   refine ⟨h3 i x o a' e1 e3,hS _ _ ((h9 _ _).2 (.inl ⟨rfl,by omega,?_⟩))⟩
   have:=G.lt h1 e1 e3
   omega
  ·obtain ⟨a',e3,⟨hn,rfl⟩|⟨t',ys,rfl,rfl⟩⟩:=key i x o a e1 e2
   ·exact (h4 i x o _ e1 e3 hn).stable fun b j h=>⟨hF b j h,rfl⟩
   ·exact ih i x o t' ys e1 e3 (fun b' j' h=>hS _ _ ((h9 _ _).2 (.inr ⟨i,o,h⟩)))
end
end Go.Proofs.Ytggibjbcbicpjaa.Ev
namespace Go.Proofs.Ytggibjbcbicpjaa.Ev
open Go
set_option linter.unusedVariables false
set_option linter.unusedSimpArgs false
section
variable {Ty:Nat→Type} (E:Tb Ty)
def ViewOk (z n:Nat) (u:Value):Option (Nat×Nat)→Bool→Value→Prop
 |none,full,v=>v=u∧full=false
 |some (o,k),full,v=>o+k≤n∧((k=0∧ ∃A,v= .slice A 0 0)∨ ∃b off c c',u= .slice (some ⟨b,off,none⟩) n c∧v= .slice (some ⟨b,off+o*z,none⟩) k c'∧k≤c'∧o+c'≤c∧(full=true→c'=k))
inductive VRep (F:Set2) (w:World) (hp:Heap Ty) (vals:Nat→Value):Value→AV Ty→Prop
 |rep (v a):Rep E F w v a→VRep F w hp vals v a
 |ref (r p vw full v R u row):root hp r=some R→Loc E w R.m (vals r) R.t R.xs p u row→ViewOk (szOf E row.t) row.xs.length u vw full v→VRep F w hp vals v (.ref r p vw full)
 |ptr (r p i o R b off c row):root hp r=some R→Loc E w R.m (vals r) R.t R.xs p (.slice (some ⟨b,off,none⟩) row.xs.length c) row→i<row.xs.length→
   VRep F w hp vals (.pointer (some ⟨b,off+(i*szOf E row.t+o),none⟩)) (.ptr r p i o)
 |agg (vs:Array Value) (cs:List (AV Ty)):vs.size=cs.length→(∀(i:Nat) v a,vs[i]? =some v→cs[i]? =some a→VRep F w hp vals v a)→VRep F w hp vals (.agg vs) (.agg cs)
 |tup (vs:Array Value) (cs:List (AV Ty)):vs.size=cs.length→(∀(i:Nat) v a,vs[i]? =some v→cs[i]? =some a→VRep F w hp vals v a)→VRep F w hp vals (.tuple vs) (.tup cs)
 |ext (v r p t xs):VRep F w hp vals v (.ext r p t xs)
 |dead (v):VRep F w hp vals v .dead
 |mp (v kd q kv):VRep F w hp vals v (.mp kd q kv)
 |vb (b j:Nat) (vs:List Value) (cs:List (AV Ty)):vs.length=cs.length→(∀(i:Nat) v,vs[i]? =some v→F b (j+i)∧w.cell? ⟨b,j+i,none⟩=some v)→(∀(i:Nat) v a,vs[i]? =some v→cs[i]? =some a→VRep F w hp vals v a)→
   VRep F w hp vals (.pointer (some ⟨b,j,none⟩)) (.vb cs)
structure HRel (F:Set2) (w:World) (hp:Heap Ty) (vals:Nat→Value) (sets:Nat→Set2):Prop where
 own: ∀r R,root hp r=some R→Own E F w R.m (vals r) R.t R.xs (sets r)
 dj: ∀r r' R R',root hp r=some R→root hp r'=some R'→ ∀b j,sets r b j→sets r' b j→r=r'
def lit:Value→AV Ty
 | .agg cs=> .agg (cs.toList.map .v)
 |x=> .v x
def opA (fr:List (Nat×AV Ty)):Operand→AV Ty
 | .tmp t=>look fr t
 | .const x=>lit x
 | .func f=> .v (.func (.func f) #[] #[])
 | .global _=> .dead
def bitsI (op:BinOp) (k:IntKind) (a b:Int):Int:=match op with
 | .and=>k.wrap ((BitVec.ofInt k.bits a &&& BitVec.ofInt k.bits b).toNat)
 | .or=>k.wrap ((BitVec.ofInt k.bits a ||| BitVec.ofInt k.bits b).toNat)
 | .xor=>k.wrap ((BitVec.ofInt k.bits a ^^^ BitVec.ofInt k.bits b).toNat)
 | .andNot=>k.wrap ((BitVec.ofInt k.bits a &&& ~~~(BitVec.ofInt k.bits b)).toNat)
 |_=>0
def binI (op:BinOp) (k:IntKind) (a b:Int):T Value:=match op with
 | .add=> .ret (.int k (k.wrap (a+b)))
 | .sub=> .ret (.int k (k.wrap (a-b)))
 | .mul=> .ret (.int k (k.wrap (a*b)))
 | .quo=> .ite (b=0) inferInstance .fail (.ret (.int k (k.wrap (a.tdiv b))))
 | .rem=> .ite (b=0) inferInstance .fail (.ret (.int k (a.tmod b)))
 | .and=> .ret (.int k (bitsI .and k a b))
 | .or=> .ret (.int k (bitsI .or k a b))
 | .xor=> .ret (.int k (bitsI .xor k a b))
 | .andNot=> .ret (.int k (bitsI .andNot k a b))
 | .eql=> .ret (.bool (a == b))
 | .neq=> .ret (.bool (a != b))
 | .lss=> .ret (.bool (decide (a<b)))
 | .leq=> .ret (.bool (decide (a≤b)))
 | .gtr=> .ret (.bool (decide (a>b)))
 | .geq=> .ret (.bool (decide (a≥b)))
 |_=> .fail
def shI (op:BinOp) (k:IntKind) (a b:Int):T Value:=match op with
 | .shl=> .ite (b<0) inferInstance .fail (.ret (.int k (k.wrap (a*2 ^ (min b.toNat k.bits)))))
 | .shr=> .ite (b<0) inferInstance .fail (.ret (.int k (a.fdiv (2 ^ (min b.toNat k.bits)))))
 |_=> .fail
def binS (op:BinOp) (a b:ByteArray):T Value:=match op with
 | .add=> .ite (((a.size+b.size:Nat):Int)>IntKind.i64.max) inferInstance .fail (.ret (.string (a++b)))
 | .eql=> .ret (.bool (a.toList == b.toList))
 | .neq=> .ret (.bool (!(a.toList == b.toList)))
 |_=> .fail
def binV (op:BinOp):Value→Value→T Value
 | .int k a, .int k' b=>match op with
  | .shl=>shI .shl k a b
  | .shr=>shI .shr k a b
  |op=> .ite (k=k') inferInstance (binI op k a b) .fail
 | .string a, .string b=>binS op a b
 |_,_=> .fail
def isPtr:AV Ty→Bool
 | .ptr _ _ _ _=>true
 | .rp _ _ _ _=>true
 |_=>false
def binA (op:BinOp) (t:Nat) (x y:AV Ty):T (AV Ty):=match x,y with
 | .v (.bool a), .v (.bool b)=>match E.ti t with
  |some ⟨_,_, .bool⟩=>match op with
   | .eql=> .ret (.v (.bool (a == b)))
   | .neq=> .ret (.v (.bool (!(a == b))))
   |_=> .fail
  |_=> .fail
 | .v (.slice A n c), .v (.slice none 0 0)=>match E.ti t with
  |some ⟨_,_, .slice _⟩=>match op with
   | .eql=> .ret (.v (.bool A.isNone))
   | .neq=> .ret (.v (.bool (!A.isNone)))
   |_=> .fail
  |_=> .fail
 | .sl false _ xs, .v (.slice none 0 0)=>match E.ti t with
  |some ⟨_,_, .slice _⟩=>match op with
   | .eql=> .ite (0<xs.length) inferInstance (.ret (.v (.bool false))) .fail
   | .neq=> .ite (0<xs.length) inferInstance (.ret (.v (.bool true))) .fail
   |_=> .fail
  |_=> .fail
 | .v a, .v b=>(binV op a b).bind fun v=> .ret (.v v)
 |x, .v (.pointer none)=>match isPtr x,E.ti t with
  |true,some ⟨_,_, .ptr _⟩=>match op with
   | .eql=> .ret (.v (.bool false))
   | .neq=> .ret (.v (.bool true))
   |_=> .fail
  |_,_=> .fail
 |_,_=> .fail
def unA (op:UnOp) (x:AV Ty):T (AV Ty):=match op,x with
 | .neg, .v (.int k n)=> .ret (.v (.int k (k.wrap (0-n))))
 | .xor, .v (.int k n)=> .ret (.v (.int k (bitsI .xor k (if k.signed then-1 else k.max) n)))
 | .not, .v (.bool b)=> .ret (.v (.bool (!b)))
 |_,_=> .fail
variable {E}
theorem binI_ok {P:Program} {op:BinOp} {t t':TypeId} {x y:Operand} {k:IntKind} {a b:Int} {v:Value} (ρ:Operand→Value) (hx:ρ x= .int k a) (hy:ρ y= .int k b) (h:(binI op k a b).val=some v) (w:World) (o:Oper) (ho:o.op= .binOp op t x y t'):
  (execOp ρ o).run P w= .ok (.value v) w:=by
 obtain ⟨d,_,ty,pos,af,gd⟩:=o
 subst ho
 unfold execOp
 simp only [hx,hy]
 cases op<;>simp only [binI,T.val,reduceCtorEq] at h
 all_goals first
  |(cases h;done)
  |(cases h;simp [eqGuard,binOp,Op.intArith,Op.intBits,Op.intCmp,bitsI,Bind.bind,Sem.bind,Pure.pure,Sem.run];done)
  |(
    split at h
    ·cases h
    ·rename_i hb
     cases h
     simp [eqGuard,binOp,Op.intDiv,hb,Bind.bind,Sem.bind,Pure.pure,Sem.run])
theorem shI_ok {P:Program} {op:BinOp} {t t':TypeId} {x y:Operand} {k k':IntKind} {a b:Int} {v:Value} (ρ:Operand→Value) (hx:ρ x= .int k a) (hy:ρ y= .int k' b) (h:(shI op k a b).val=some v) (w:World) (o:Oper) (ho:o.op= .binOp op t x y t'):
  (execOp ρ o).run P w= .ok (.value v) w:=by
 obtain ⟨d,_,ty,pos,af,gd⟩:=o
 subst ho
 unfold execOp
 simp only [hx,hy]
 cases op<;>simp only [shI,T.val,reduceCtorEq] at h
 all_goals
  split at h
  ·cases h
  ·rename_i hb
   cases h
   simp [eqGuard,binOp,Op.shift,hb,Bind.bind,Sem.bind,Pure.pure,Sem.run]
theorem binS_ok {P:Program} {op:BinOp} {t t':TypeId} {x y:Operand} {a b:ByteArray} {v:Value} (ρ:Operand→Value) (hx:ρ x= .string a) (hy:ρ y= .string b) (h:(binS op a b).val=some v) (w:World) (o:Oper) (ho:o.op= .binOp op t x y t'):
  (execOp ρ o).run P w= .ok (.value v) w:=by
 obtain ⟨d,_,ty,pos,af,gd⟩:=o
 subst ho
 unfold execOp
 simp only [hx,hy]
 cases op<;>simp only [binS,T.val,reduceCtorEq] at h
 all_goals first
  |(cases h;simp [eqGuard,binOp,Op.stringOp,Bind.bind,Sem.bind,Pure.pure,Sem.run];done)
  |(
    split at h
    ·cases h
    ·rename_i hb
     cases h
     simp [eqGuard,binOp,Op.stringOp,Bind.bind,Sem.bind,Pure.pure,Sem.run]
     simp at hb
     rw [if_neg (by omega)]
     rfl)
theorem binV_ok {P:Program} {op:BinOp} {t t':TypeId} {x y:Operand} {a b v:Value} (ρ:Operand→Value) (hx:ρ x=a) (hy:ρ y=b) (h:(binV op a b).val=some v) (w:World) (o:Oper) (ho:o.op= .binOp op t x y t'):
  (execOp ρ o).run P w= .ok (.value v) w:=by
 unfold binV at h
 split at h
 ·split at h
  ·exact shI_ok ρ hx hy h w o ho
  ·exact shI_ok ρ hx hy h w o ho
  ·simp only [T.val] at h
   split at h
   ·rename_i e;subst e;exact binI_ok ρ hx hy h w o ho
   ·cases h
 ·exact binS_ok ρ hx hy h w o ho
 ·cases h
def DOk (Z:TypeId→Nat→Prop):D→TypeDesc→Prop
 | .int k, .int k'=>k=k'
 | .bool, .bool=>True
 | .str, .string=>True
 | .slice e, .slice e'=>e=e'
 | .struct fs, .struct gs=>gs.size=fs.length∧ ∀(i:Nat) (p:Nat×Nat),fs[i]? =some p→ ∃f:Field,gs[i]? =some f∧f.offset=p.1∧f.type=p.2∧ ∃z,Z p.2 z∧z≠0
 | .arr n e, .array n' e'=>n=n'∧e=e'
 | .ptr e, .pointer e'=>e=e'
 | .other,_=>True
 |_,_=>False
def kdDesc:Option IntKind→TypeDesc
 |some k=> .int k
 |none=> .string
variable (E) in
structure TbOk (P:Program):Prop where
 maps: ∀t kd q,E.maps t=some (kd,q)→ ∃kt et j,P.underlying t=some (.map kt et)∧P.underlying kt=some (kdDesc kd)∧P.info? et=some j∧j.zero=some (.int q 0)
 und: ∀t i,E.ti t=some i→ ∃d,P.underlying t=some d∧DOk (fun t z=> ∃j,P.info? t=some j∧j.size=z) i.d d
 info: ∀t i,E.ti t=some i→ ∃j,P.info? t=some j∧j.size=i.sz∧j.bytes=i.bytes
 zero: ∀t i,E.ti t=some i→E.has t=true→szOf E t=i.sz∧ ∃j z,P.info? t=some j∧j.zero=some z∧z.cells.size=i.sz∧
  ∀m (o:Nat) a,((E.cod t).enc m (E.cod t).zero)[o]? =some a→ ∃v,z.cells[o]? =some v∧((a= .v v∧oneC v=true)∨ ∃q t',a= .sl q t' []∧v= .slice none 0 0)
theorem run_underlying {P:Program} {t:TypeId} {d:TypeDesc} (h:P.underlying t=some d) {α:Type} (k:TypeDesc→Sem α) (w:World):((underlying t).bind k).run P w=(k d).run P w:=by
 simp [underlying,program,Bind.bind,Sem.bind,Sem.run,h,Pure.pure]
theorem run_sizeOf {P:Program} {t:TypeId} {j:TypeInfo} (h:P.info? t=some j) {α:Type} (k:Nat→Sem α) (w:World):((sizeOf t).bind k).run P w=(k j.size).run P w:=by
 simp [sizeOf,typeInfo,program,Bind.bind,Sem.bind,Sem.run,h,Pure.pure]
theorem addr_add (b off n:Nat):(⟨b,off,none⟩:Addr).add n=⟨b,off+n,none⟩:=by
 unfold Addr.add
 split
 ·rename_i h;subst h;rfl
 ·rfl
theorem fieldAt_ok {P:Program} (K:TbOk E P) {s:Nat} {i:TI} {fs:List (Nat×Nat)} (hi:E.ti s=some i) (hd:i.d= .struct fs) {f:Nat} {p:Nat×Nat} (hf:fs[f]? =some p) (b off:Nat) (w:World):
  (Instr.fieldAt s (.pointer (some ⟨b,off,none⟩)) f).run P w= .ok (.pointer (some ⟨b,off+p.1,none⟩)) w:=by
 obtain ⟨d,h1,h2⟩:=K.und s i hi
 rw [hd] at h2
 unfold DOk at h2
 split at h2<;>try contradiction
 rename_i gs fs' e
 cases e
 obtain ⟨fl,h3,h4,h5,z,⟨j,h6,h7⟩,h8⟩:=h2.2 f p hf
 rw [←h5] at h6
 subst h7
 simp [Instr.fieldAt,fieldPlace,underlying,sizeOf,typeInfo,program,Instr.sureAddr,Bind.bind,Sem.bind,Sem.run,Pure.pure,h1,h3,h6,h8,h4,addr_add]
theorem okB {P:Program} {ρ:Operand→Value} {o:Oper} {v:Value} {w w':World} {s:Sem Value} (he:execOp ρ o=(do pure (.value (←s)))) (h:s.run P w= .ok v w'):(execOp ρ o).run P w= .ok (.value v) w':=by
 rw [he,Sem.run_bind,h]
 rfl
theorem indexAt_ok {P:Program} (K:TbOk E P) {t e:Nat} {i ie:TI} (hi:E.ti t=some i) (hd:i.d= .slice e) (he:E.ti e=some ie) (b off n c:Nat) (k:IntKind) (q:Int) (h0:0≤q) (hn:q<n) (w:World):
  (Instr.indexAt t (.slice (some ⟨b,off,none⟩) n c) (.int k q)).run P w= .ok (.pointer (some ⟨b,off+q.toNat*ie.sz,none⟩)) w:=by
 obtain ⟨d,h1,h2⟩:=K.und t i hi
 rw [hd] at h2
 unfold DOk at h2
 split at h2<;>try contradiction
 rename_i e1 e2 e3
 cases e3
 subst h2
 obtain ⟨j,h3,h4,_⟩:=K.info _ _ he
 simp [Instr.indexAt,asIntOf,underlying,sizeOf,typeInfo,program,Bind.bind,Sem.bind,Sem.run,Pure.pure,h1,h3,h4,h0,hn,addr_add]
end
end Go.Proofs.Ytggibjbcbicpjaa.Ev
namespace Go.Proofs.Ytggibjbcbicpjaa.Ev
open Go
set_option linter.unusedVariables false
set_option linter.unusedSimpArgs false
section
variable {Ty:Nat→Type} (E:Tb Ty)
def btI (s:ByteArray) (q:Int):Int:=if h:q.toNat<s.size then ((s[q.toNat]'h).toNat:Int) else 0
def seenT (r:Nat) (p:Path) (i o:Nat):AV Ty→T (AV Ty)
 | .v x=> .ret (.v x)
 | .sl true t ys=> .ret (.ref r (p++[(i,o)]) none false)
 | .sl false t ys=> .ret (.sl false t ys)
 |_=> .fail
def cellsT (r:Nat) (p:Path) (m:Bool) (t:Nat) (xs:List (Ty t)) (i:Nat):Nat→Nat→T (List (AV Ty))
 |_,0=> .ret []
 |o,n+1=>(seenT r p i o (cellOf E m t xs i o)).bind fun a=>(cellsT r p m t xs i (o+1) n).bind fun l=> .ret (a :: l)
def cellD:D→Bool
 | .int _=>true
 | .bool=>true
 | .str=>true
 | .slice _=>true
 |_=>false
def isAggD:D→Bool
 | .struct _=>true
 | .arr _ _=>true
 |_=>false
def loadT (hp:Heap Ty) (i:TI):AV Ty→T (AV Ty)
 | .ptr r p k o=>match rowAt E hp r p with
  |some (m,row)=>match isAggD i.d with
   |true=>(cellsT E r p m row.t row.xs k o i.sz).bind fun l=> .ret (.agg l)
   |false=>seenT r p k o (cellOf E m row.t row.xs k o)
  |none=> .fail
 | .rp t xs k o=>match isAggD i.d with
   |true=>(cellsT E 0 [] false t xs k o i.sz).bind fun l=> .ret (.agg l)
   |false=>seenT 0 [] k o (cellOf E false t xs k o)
 | .vb cs=>match isAggD i.d with
   |true=>match Nat.ble i.sz cs.length with
    |true=> .ret (.agg (cs.take i.sz))
    |false=> .fail
   |false=>match cs with
    |a :: _=> .ret a
    |[]=> .fail
 |_=> .fail
def intA:AV Ty→Option Int
 | .v (.int _ n)=>some n
 |_=>none
def cutT (n:Nat) (lo hi mx:Option (AV Ty)) (k:Nat→Nat→Bool→T (AV Ty)):T (AV Ty):=
 match (match lo with|none=>some 0|some a=>intA a),(match hi with|none=>some (n:Int)|some a=>intA a) with
 |some l,some h=>match mx with
  |none=> .ite (0≤l∧l≤h∧h≤n) inferInstance (k l.toNat h.toNat false) .fail
  |some a=>match intA a,hi with
   |some m,some _=> .ite (0≤l∧l≤h∧h≤n∧m=h) inferInstance (k l.toNat h.toNat true) .fail
   |_,_=> .fail
 |_,_=> .fail
def indexT (hp:Heap Ty) (e:TI) (q:Int):AV Ty→T (AV Ty)
 | .sl false t xs=>match Nat.beq (szOf E t) e.sz with
  |true=> .ite (0≤q) inferInstance (.ite (q<xs.length) inferInstance (.ret (.rp t xs q.toNat 0)) .fail) .fail
  |false=> .fail
 | .ref r p vw full=>match rowAt E hp r p with
  |some (_,row)=>match Nat.beq (szOf E row.t) e.sz with
   |true=> .ite (0≤q) inferInstance (.ite (q<vlen row.xs vw) inferInstance (.ret (.ptr r p (voff vw+q.toNat) 0)) .fail) .fail
   |false=> .fail
  |none=> .fail
 |_=> .fail
def arrT (n:Nat) (e:TI) (q:Int):AV Ty→T (AV Ty)
 | .ptr r p i o=> .ite (0≤q) inferInstance (.ite (q<n) inferInstance (.ret (.ptr r p i (o+q.toNat*e.sz))) .fail) .fail
 | .rp t xs i o=> .ite (0≤q) inferInstance (.ite (q<n) inferInstance (.ret (.rp t xs i (o+q.toNat*e.sz))) .fail) .fail
 |_=> .fail
def arrF (n e z:Nat):List (Nat×Nat):=(List.range n).map fun i=>(i*z,e)
def cellsOfA:AV Ty→Option (List (AV Ty))
 | .agg ds=>some ds
 | .v x=>match oneC x with
  |true=>some [.v x]
  |false=>none
 | .sl b t xs=>some [.sl b t xs]
 | .ref r p vw f=>some [.ref r p vw f]
 | .ptr r p i o=>some [.ptr r p i o]
 | .rp t xs i o=>some [.rp t xs i o]
 |_=>none
def fillA:List (AV Ty)→List (Nat×Nat×AV Ty)→Option (List (AV Ty))
 |cs,[]=>some cs
 |cs,(off,z,a) :: l=>match cellsOfA a with
  |some ds=>match Nat.beq ds.length z && Nat.ble (off+ds.length) cs.length with
   |true=>fillA (cs.take off++ds++cs.drop (off+ds.length)) l
   |false=>none
  |none=>none
def nilZ:AV Ty→AV Ty
 | .sl _ _ _=> .v (.slice none 0 0)
 |a=>a
def placesA (fs:List (Nat×Nat)) (fr:List (Nat×AV Ty)):List (Nat×Operand)→Option (List (Nat×Nat×AV Ty))
 |[]=>some []
 |(i,x) :: l=>match fs[i]? with
  |some (off,t)=>match E.ti t with
   |some ti=>match placesA fs fr l with
    |some r=>some ((off,ti.sz,opA fr x) :: r)
    |none=>none
   |none=>none
  |none=>none
def pureT (st:St Ty) (op:Op):T (AV Ty):=match op with
 | .move x=> .ret (opA st.fr x)
 | .assign x=> .ret (opA st.fr x)
 | .pick c a b=>match opA st.fr c with
  | .v (.bool q)=> .ite (q=true) inferInstance (.ret (opA st.fr a)) (.ret (opA st.fr b))
  |_=> .fail
 | .binOp op t x y _=>binA E op t (opA st.fr x) (opA st.fr y)
 | .unOp op _ x=>unA op (opA st.fr x)
 | .convert s d x=>match E.ti s,E.ti d,opA st.fr x with
  |some ⟨_,_, .int _⟩,some ⟨_,_, .int k⟩, .v (.int _ n)=> .ret (.v (.int k (k.wrap n)))
  |_,_,_=> .fail
 | .extract x i=>match opA st.fr x with
  | .tup cs=>T.opt cs[i]?
  |_=> .fail
 | .field s x f=>match E.ti s,opA st.fr x with
  |some ⟨_,_, .struct fs⟩, .agg cs=>match fs[f]? with
   |some (off,u)=>match E.ti u with
    |some iu=>match cellD iu.d with
     |true=>T.opt cs[off]?
     |false=> .fail
    |none=> .fail
   |none=> .fail
  |_,_=> .fail
 | .nilCheck x=>match opA st.fr x with
  | .ptr r p i o=> .ret (.ptr r p i o)
  | .rp t xs i o=> .ret (.rp t xs i o)
  |_=> .fail
 | .fieldAddr s x f=>match E.ti s with
  |some ⟨_,_, .struct fs⟩=>match fs[f]?,opA st.fr x with
   |some (off,_), .ptr r p i o=> .ret (.ptr r p i (o+off))
   |some (off,_), .rp t xs i o=> .ret (.rp t xs i (o+off))
   |some (off,_), .vb cs=> .ret (.vb (cs.drop off))
   |_,_=> .fail
  |_=> .fail
 | .indexAddr t x ix=>match E.ti t,opA st.fr ix with
  |some ⟨_,_, .slice e⟩, .v (.int _ q)=>match E.ti e with
   |some ie=>indexT E st.hp ie q (opA st.fr x)
   |none=> .fail
  |some ⟨_,_, .arr n e⟩, .v (.int _ q)=>match E.ti e with
   |some ie=>arrT n ie q (opA st.fr x)
   |none=> .fail
  |_,_=> .fail
 | .index t x ix=>match E.ti t,opA st.fr x,opA st.fr ix with
  |some ⟨_,_, .str⟩, .v (.string s), .v (.int _ q)=> .ite (0≤q) inferInstance (.ite (q<s.size) inferInstance (.ret (.v (.int .u8 (btI s q)))) .fail) .fail
  |_,_,_=> .fail
 | .load t a=>match E.ti t with
  |some i=>match i.d with
   | .other=> .fail
   |_=>loadT E st.hp i (opA st.fr a)
  |none=> .fail
 | .slice t x lo hi mx=>match E.ti t,opA st.fr x with
  |some ⟨_,_, .str⟩, .v (.string s)=>match mx with
   |none=>cutT s.size (lo.map (opA st.fr)) (hi.map (opA st.fr)) none fun l h _=> .ret (.v (.string (s.extract l h)))
   |some _=> .fail
  |some ⟨_,_, .slice e⟩, .sl false t' xs=>match E.ti e with
   |some ie=>match Nat.beq (szOf E t') ie.sz with
    |true=>cutT xs.length (lo.map (opA st.fr)) (hi.map (opA st.fr)) (mx.map (opA st.fr)) fun l h _=> .ret (.sl false t' ((xs.drop l).take (h-l)))
    |false=> .fail
   |none=> .fail
  |some ⟨_,_, .slice e⟩, .ref r p vw full=>match E.ti e,rowAt E st.hp r p with
   |some ie,some (_,row)=>match Nat.beq (szOf E row.t) ie.sz with
    |true=>cutT (vlen row.xs vw) (lo.map (opA st.fr)) (hi.map (opA st.fr)) (mx.map (opA st.fr)) fun l h f=> .ret (.ref r p (some (voff vw+l,h-l)) f)
    |false=> .fail
   |_,_=> .fail
  |_,_=> .fail
 | .build t parts=>match E.ti t,E.has t with
  |some ⟨_,_, .struct fs⟩,true=>match placesA E fs st.fr parts.toList with
   |some ps=>match fillA (((E.cod t).enc false (E.cod t).zero).map nilZ) ps with
    |some cs=> .ret (.agg cs)
    |none=> .fail
   |none=> .fail
  |some ⟨_,_, .arr n e⟩,true=>match E.ti e with
   |some ie=>match placesA E (arrF n e ie.sz) st.fr parts.toList with
    |some ps=>match fillA (((E.cod t).enc false (E.cod t).zero).map nilZ) ps with
     |some cs=> .ret (.agg cs)
     |none=> .fail
    |none=> .fail
   |none=> .fail
  |_,_=> .fail
 | .call c=>match c.callee,c.args.toList with
  | .builtin .len,[x]=>match c.argTypes.toList with
   |[t]=>match E.ti t,opA st.fr x with
    |some ⟨_,_, .str⟩, .v (.string s)=> .ret (.v (.int .i64 s.size))
    |some ⟨_,_, .slice _⟩, .sl false _ xs=> .ret (.v (.int .i64 xs.length))
    |some ⟨_,_, .slice _⟩, .ref r p vw _=>match rowAt E st.hp r p with
     |some (_,row)=> .ret (.v (.int .i64 (vlen row.xs vw)))
     |none=> .fail
    |_,_=> .fail
   |_=> .fail
  | .builtin .min,[x,y]=>match opA st.fr x,opA st.fr y with
   | .v (.int k a), .v (.int _ b)=> .ret (.v (.int k (if b<a then b else a)))
   |_,_=> .fail
  | .builtin .max,[x,y]=>match opA st.fr x,opA st.fr y with
   | .v (.int k a), .v (.int _ b)=> .ret (.v (.int k (if b>a then b else a)))
   |_,_=> .fail
  |_,_=> .fail
 |_=> .fail
end
end Go.Proofs.Ytggibjbcbicpjaa.Ev
namespace Go.Proofs.Ytggibjbcbicpjaa.Ev
open Go
set_option linter.unusedVariables false
set_option linter.unusedSimpArgs false
section
variable {Ty:Nat→Type} {E:Tb Ty}
variable {F:Set2} {w:World} {hp:Heap Ty} {vals:Nat→Value} {sets:Nat→Set2}
theorem VRep.v {v x:Value} (h:VRep E F w hp vals v (.v x)):v=x:=by
 cases h with
 |rep _ _ h=>cases h;rfl
theorem VRep.sl {v:Value} {t:Nat} {xs:List (Ty t)} (h:VRep E F w hp vals v (.sl false t xs)):Rep E F w v (.sl false t xs):=by
 cases h with
 |rep _ _ h=>exact h
theorem VRep.rp {v:Value} {t:Nat} {xs:List (Ty t)} {i o:Nat} (h:VRep E F w hp vals v (.rp t xs i o)):Rep E F w v (.rp t xs i o):=by
 cases h with
 |rep _ _ h=>exact h
theorem Rep.slen {v:Value} {t:Nat} {xs:List (Ty t)} (h:Rep E F w v (.sl false t xs)): ∃A c,v= .slice A xs.length c:=by
 cases h with
 |nil A c t=>exact ⟨A,c,rfl⟩
 |sl b off c t xs g=>exact ⟨_,c,rfl⟩
theorem Rep.slen' {v:Value} {t:Nat} {xs:List (Ty t)} (h:Rep E F w v (.sl false t xs)): ∃A c,v= .slice A xs.length c∧xs.length≤c:=by
 cases h with
 |nil A c t=>exact ⟨A,c,rfl,Nat.zero_le _⟩
 |sl b off c t xs g h=>exact ⟨_,c,rfl,h⟩
theorem VRep.ref' {v:Value} {r:Nat} {p:Path} {vw:Option (Nat×Nat)} {full:Bool} (h:VRep E F w hp vals v (.ref r p vw full)):
  ∃R u row,root hp r=some R∧Loc E w R.m (vals r) R.t R.xs p u row∧ViewOk (szOf E row.t) row.xs.length u vw full v:=by
 cases h with
 |rep _ _ h=>cases h
 |ref r p vw full v R u row h1 h2 h3=>exact ⟨R,u,row,h1,h2,h3⟩
theorem VRep.ptr' {v:Value} {r:Nat} {p:Path} {i o:Nat} (h:VRep E F w hp vals v (.ptr r p i o)):
  ∃R b off c row,root hp r=some R∧Loc E w R.m (vals r) R.t R.xs p (.slice (some ⟨b,off,none⟩) row.xs.length c) row∧i<row.xs.length∧v= .pointer (some ⟨b,off+(i*szOf E row.t+o),none⟩):=by
 cases h with
 |rep _ _ h=>cases h
 |ptr r p i o R b off c row h1 h2 h3=>exact ⟨R,b,off,c,row,h1,h2,h3,rfl⟩
theorem VRep.agg' {v:Value} {cs:List (AV Ty)} (h:VRep E F w hp vals v (.agg cs)): ∃vs:Array Value,v= .agg vs∧vs.size=cs.length∧ ∀(i:Nat) v a,vs[i]? =some v→cs[i]? =some a→VRep E F w hp vals v a:=by
 cases h with
 |rep _ _ h=>cases h with
  |agg vs cs h1 h2=>exact ⟨vs,rfl,h1,fun i v a h3 h4=> .rep _ _ (h2 i v a h3 h4)⟩
 |agg vs cs h1 h2=>exact ⟨vs,rfl,h1,h2⟩
theorem VRep.vb' {v:Value} {cs:List (AV Ty)} (h:VRep E F w hp vals v (.vb cs)): ∃(b j:Nat) (vs:List Value),v= .pointer (some ⟨b,j,none⟩)∧vs.length=cs.length∧(∀(i:Nat) v,vs[i]? =some v→F b (j+i)∧w.cell? ⟨b,j+i,none⟩=some v)∧
  ∀(i:Nat) v a,vs[i]? =some v→cs[i]? =some a→VRep E F w hp vals v a:=by
 cases h with
 |rep _ _ h=>cases h
 |vb b j vs cs h1 h0 h2=>exact ⟨b,j,vs,rfl,h1,h0,h2⟩
theorem VRep.tup' {v:Value} {cs:List (AV Ty)} (h:VRep E F w hp vals v (.tup cs)): ∃vs:Array Value,v= .tuple vs∧vs.size=cs.length∧ ∀(i:Nat) v a,vs[i]? =some v→cs[i]? =some a→VRep E F w hp vals v a:=by
 cases h with
 |rep _ _ h=>cases h with
  |tup vs cs h1 h2=>exact ⟨vs,rfl,h1,fun i v a h3 h4=> .rep _ _ (h2 i v a h3 h4)⟩
 |tup vs cs h1 h2=>exact ⟨vs,rfl,h1,h2⟩
theorem rowAt_of {r:Nat} {p:Path} {R:Root Ty} {u:Value} {row:Row Ty} (h1:root hp r=some R) (h2:Loc E w R.m (vals r) R.t R.xs p u row):rowAt E hp r p=some (R.m,row):=by
 unfold rowAt
 simp only [h1,h2.nav]
theorem ViewOk.len {z n:Nat} {u:Value} {vw:Option (Nat×Nat)} {full:Bool} {v:Value} (h:ViewOk z n u vw full v) (hu: ∃A c,u= .slice A n c) {t:Nat} {xs:List (Ty t)} (hn:xs.length=n): ∃A c,v= .slice A (vlen xs vw) c:=by
 cases vw with
 |none=>obtain ⟨rfl,_⟩:=h;obtain ⟨A,c,rfl⟩:=hu;subst hn;exact ⟨A,c,rfl⟩
 |some ok=>
  obtain ⟨o,k⟩:=ok
  rcases h with ⟨_,⟨rfl,A,rfl⟩|⟨b,off,c,c',_,rfl,_⟩⟩
  ·exact ⟨A,0,rfl⟩
  ·exact ⟨_,c',rfl⟩
theorem Own.head {m:Bool} {v:Value} {t:Nat} {xs:List (Ty t)} {S:Set2} (h:Own E F w m v t xs S): ∃A c,v= .slice A xs.length c:=by
 rcases h.inv with ⟨⟨A,rfl⟩,rfl,_⟩|⟨b,off,c,g,B,rfl,_⟩
 ·exact ⟨A,0,rfl⟩
 ·exact ⟨_,c,rfl⟩
theorem HRel.at (G:Good E) (H:HRel E F w hp vals sets) {r:Nat} {p:Path} {R:Root Ty} {u:Value} {row:Row Ty} (h1:root hp r=some R) (h2:Loc E w R.m (vals r) R.t R.xs p u row): ∃S,Own E F w R.m u row.t row.xs S:=by
 obtain ⟨S,h,_⟩:=focus G p (H.own r R h1) h2
 exact ⟨S,h⟩
theorem cellOf_some {m:Bool} {t:Nat} {xs:List (Ty t)} {i o:Nat} {a:AV Ty} (hi:i<xs.length) (h:cellOf E m t xs i o=a) (ha:a≠ .dead): ∃x,xs[i]? =some x∧((E.cod t).enc m x)[o]? =some a:=by
 unfold cellOf at h
 rw [getD_of (List.getElem?_eq_getElem hi)] at h
 refine ⟨_,List.getElem?_eq_getElem hi,?_⟩
 cases e:((E.cod t).enc m xs[i])[o]? with
 |none=>rw [List.getD_eq_getElem?_getD,e] at h;exact absurd h.symm ha
 |some a'=>rw [List.getD_eq_getElem?_getD,e] at h;exact congrArg some h
theorem Loc.snoc: ∀ {p:Path} {m:Bool} {v:Value} {t:Nat} {xs:List (Ty t)} {b off c:Nat} {row:Row Ty} {i o:Nat} {x:Ty row.t} {t':Nat} {ys:List (Ty t')} {v':Value},
  Loc E w m v t xs p (.slice (some ⟨b,off,none⟩) row.xs.length c) row→row.xs[i]? =some x→((E.cod row.t).enc m x)[o]? =some (.sl true t' ys)→w.cell? ⟨b,off+(i*szOf E row.t+o),none⟩=some v'→
  Loc E w m v t xs (p++[(i,o)]) v' ⟨t',ys⟩
 |[],m,v,t,xs,b,off,c,row,i,o,x,t',ys,v',⟨h1,h2⟩,h3,h4,h5=>by
  subst h2
  exact ⟨b,off,c,x,t',ys,v',h1.symm,h3,h4,h5,rfl,rfl⟩
 |(i',o') :: p,m,v,t,xs,b,off,c,row,i,o,x,t',ys,v',⟨b1,off1,c1,x1,t1,ys1,v1,e1,e2,e3,e4,h⟩,h3,h4,h5=>
  ⟨b1,off1,c1,x1,t1,ys1,v1,e1,e2,e3,e4,Loc.snoc h h3 h4 h5⟩
theorem seen_ok (G:Good E) (H:HRel E F w hp vals sets) {r:Nat} {p:Path} {R:Root Ty} {b off c:Nat} {row:Row Ty} (h1:root hp r=some R) (h2:Loc E w R.m (vals r) R.t R.xs p (.slice (some ⟨b,off,none⟩) row.xs.length c) row)
  {i o:Nat} (hi:i<row.xs.length) {a:AV Ty} (h:(seenT r p i o (cellOf E R.m row.t row.xs i o)).val=some a): ∃v,w.cell? ⟨b,off+(i*szOf E row.t+o),none⟩=some v∧VRep E F w hp vals v a:=by
 obtain ⟨S,hO⟩:=H.at G h1 h2
 rcases hO.inv with ⟨⟨A,e⟩,e2,_⟩|⟨b',off',c',g,B,e,O⟩
 ·rw [e2] at hi;exact absurd hi (by simp)
 ·injection e with e1 e2 e3
  injection e1 with e1
  injection e1 with e1 e4
  subst e1 e4
  have key: ∀a',cellOf E R.m row.t row.xs i o=a'→a'≠ .dead→ ∃x,row.xs[i]? =some x∧((E.cod row.t).enc R.m x)[o]? =some a':=fun a'=>cellOf_some hi
  cases hc:cellOf E R.m row.t row.xs i o with
  |v x=>
   rw [hc] at h;cases h
   obtain ⟨y,k1,k2⟩:=key _ hc (by simp)
   exact ⟨_,O.cell i y o _ k1 k2, .rep _ _ (O.rep i y o _ k1 k2 (fun h=>h))⟩
  |sl q t ys=>
   rw [hc] at h
   obtain ⟨y,k1,k2⟩:=key _ hc (by simp)
   cases q with
   |true=>
    cases h
    refine ⟨_,O.cell i y o _ k1 k2, .ref r _ none false _ R _ ⟨t,ys⟩ h1 (h2.snoc k1 k2 (O.cell i y o _ k1 k2)) ⟨rfl,rfl⟩⟩
   |false=>
    cases h
    exact ⟨_,O.cell i y o _ k1 k2, .rep _ _ (O.rep i y o _ k1 k2 (fun h=>h))⟩
  |ref r' p' vw full=>rw [hc] at h;cases h
  |ptr r' p' i' o'=>rw [hc] at h;cases h
  |rp t' xs' i' o'=>rw [hc] at h;cases h
  |box m' t' x'=>rw [hc] at h;cases h
  |agg cs=>rw [hc] at h;cases h
  |tup cs=>rw [hc] at h;cases h
  |ext r' p' t' xs'=>rw [hc] at h;cases h
  |dead=>rw [hc] at h;cases h
  |mp kd q kv=>rw [hc] at h;cases h
  |vb cs=>rw [hc] at h;cases h
theorem seenF_ok {t:Nat} {xs:List (Ty t)} {b off:Nat} {g:Nat→Nat→Value}
  (hc: ∀(i:Nat) x (o:Nat) a,xs[i]? =some x→((E.cod t).enc false x)[o]? =some a→w.cell? ⟨b,off+(i*szOf E t+o),none⟩=some (g i o)∧F b (off+(i*szOf E t+o)))
  (hr: ∀(i:Nat) x (o:Nat) a,xs[i]? =some x→((E.cod t).enc false x)[o]? =some a→Rep E F w (g i o) a)
  {r:Nat} {p:Path} {i o:Nat} (G:Good E) (hi:i<xs.length) {a:AV Ty} (h:(seenT r p i o (cellOf E false t xs i o)).val=some a): ∃v,w.cell? ⟨b,off+(i*szOf E t+o),none⟩=some v∧VRep E F w hp vals v a:=by
 have key: ∀a',cellOf E false t xs i o=a'→a'≠ .dead→ ∃x,xs[i]? =some x∧((E.cod t).enc false x)[o]? =some a':=fun a'=>cellOf_some hi
 cases e:cellOf E false t xs i o with
 |v x=>
  rw [e] at h;cases h
  obtain ⟨y,k1,k2⟩:=key _ e (by simp)
  exact ⟨_,(hc i y o _ k1 k2).1, .rep _ _ (hr i y o _ k1 k2)⟩
 |sl q t ys=>
  rw [e] at h
  obtain ⟨y,k1,k2⟩:=key _ e (by simp)
  cases q with
  |true=>exact (G.frozen k2).elim
  |false=>
   cases h
   exact ⟨_,(hc i y o _ k1 k2).1, .rep _ _ (hr i y o _ k1 k2)⟩
 |ref r' p' vw full=>rw [e] at h;cases h
 |ptr r' p' i' o'=>rw [e] at h;cases h
 |rp t' xs' i' o'=>rw [e] at h;cases h
 |box m' t' x'=>rw [e] at h;cases h
 |agg cs=>rw [e] at h;cases h
 |tup cs=>rw [e] at h;cases h
 |ext r' p' t' xs'=>rw [e] at h;cases h
 |dead=>rw [e] at h;cases h
 |mp kd q kv=>rw [e] at h;cases h
 |vb cs=>rw [e] at h;cases h
theorem cells_ok {r:Nat} {p:Path} {m:Bool} {t:Nat} {xs:List (Ty t)} {i b base:Nat} (hs: ∀o a,(seenT r p i o (cellOf E m t xs i o)).val=some a→ ∃v,w.cell? ⟨b,base+o,none⟩=some v∧VRep E F w hp vals v a):
  ∀(n o:Nat) (l:List (AV Ty)),(cellsT E r p m t xs i o n).val=some l→ ∃vs:List Value,vs.length=n∧(∀k,k<n→ ∃v,vs[k]? =some v∧w.cell? ⟨b,base+(o+k),none⟩=some v)∧l.length=n∧
   ∀(k:Nat) v a,vs[k]? =some v→l[k]? =some a→VRep E F w hp vals v a
 |0,o,l,h=>by
  cases h
  exact ⟨[],rfl,fun k hk=>absurd hk (by omega),rfl,fun k v a h=>by simp at h⟩
 |n+1,o,l,h=>by
  unfold cellsT at h
  obtain ⟨a,h1,h2⟩:=(T.val_bind _ _).1 h
  obtain ⟨l',h3,h4⟩:=(T.val_bind _ _).1 h2
  cases h4
  obtain ⟨v,k1,k2⟩:=hs o a h1
  obtain ⟨vs,q1,q2,q3,q4⟩:=cells_ok hs n (o+1) l' h3
  refine ⟨v :: vs,by simp [q1],fun k hk=> ?_,by simp [q3],fun k v' a' e1 e2=> ?_⟩
  ·cases k with
   |zero=>exact ⟨v,rfl,k1⟩
   |succ k=>
    obtain ⟨v',e1,e2⟩:=q2 k (by omega)
    exact ⟨v',by simpa using e1,by rw [show o+(k+1)=o+1+k by omega];exact e2⟩
  ·cases k with
   |zero=>cases e1;cases e2;exact k2
   |succ k=>exact q4 k v' a' (by simpa using e1) (by simpa using e2)
theorem loadCells_ok {P:Program} {b base:Nat} {vs:List Value}: ∀(n i:Nat) (acc:Array Value),(∀k,k<n→ ∃v,vs[k]? =some v∧w.cell? ⟨b,base+(i+k),none⟩=some v)→vs.length=n→
  (loadCellsFrom ⟨b,base,none⟩ i n acc).run P w= .ok (acc++vs.toArray) w:=by
 intro n
 induction n generalizing vs with
 |zero=>
  intro i acc h hl
  have:vs=[]:=List.length_eq_zero_iff.1 hl
  subst this
  simp [loadCellsFrom,Pure.pure,Sem.run]
 |succ n ih=>
  intro i acc h hl
  cases vs with
  |nil=>simp at hl
  |cons v vs=>
   obtain ⟨v',e1,e2⟩:=h 0 (by omega)
   cases e1
   unfold loadCellsFrom
   simp only [load,Bind.bind,Sem.bind,Sem.run,addr_add]
   rw [show base+i=base+(i+0) by omega,e2]
   simp only
   rw [ih (vs:=vs) (i+1) (acc.push v) (fun k hk=> ?_) (by simpa using hl)]
   ·congr 1
    apply Array.ext'
    simp
   ·obtain ⟨v'',e3,e4⟩:=h (k+1) (by omega)
    exact ⟨v'',by simpa using e3,by rw [show i+1+k=i+(k+1) by omega];exact e4⟩
end
end Go.Proofs.Ytggibjbcbicpjaa.Ev
namespace Go.Proofs.Ytggibjbcbicpjaa.Ev
open Go
set_option linter.unusedVariables false
set_option linter.unusedSimpArgs false
section
variable {Ty:Nat→Type} {E:Tb Ty}
variable {F:Set2} {w:World} {hp:Heap Ty} {vals:Nat→Value} {sets:Nat→Set2} {P:Program}
theorem DOk.slice {Z:TypeId→Nat→Prop} {e:Nat} {d:TypeDesc} (h:DOk Z (.slice e) d):d= .slice e:=by
 cases d<;>simp [DOk] at h
 subst h;rfl
theorem DOk.str {Z:TypeId→Nat→Prop} {d:TypeDesc} (h:DOk Z .str d):d= .string:=by
 cases d<;>simp [DOk] at h
 rfl
theorem DOk.int {Z:TypeId→Nat→Prop} {k:IntKind} {d:TypeDesc} (h:DOk Z (.int k) d):d= .int k:=by
 cases d<;>simp [DOk] at h
 subst h;rfl
theorem DOk.bool {Z:TypeId→Nat→Prop} {d:TypeDesc} (h:DOk Z .bool d):d= .bool:=by
 cases d<;>simp [DOk] at h
 rfl
theorem isAgg_ok (K:TbOk E P) {t:Nat} {i:TI} (hi:E.ti t=some i) (hn:(match i.d with| .other=>false|_=>true)=true) (w:World):(isAgg t).run P w= .ok (isAggD i.d) w:=by
 obtain ⟨d,h1,h2⟩:=K.und t i hi
 cases hd:i.d<;>rw [hd] at h2 hn<;>cases d<;>simp [DOk] at h2 hn<;>simp [isAgg,underlying,program,Bind.bind,Sem.bind,Sem.run,Pure.pure,h1,isAggD]
theorem load_ok (K:TbOk E P) (G:Good E) (H:HRel E F w hp vals sets) {t:Nat} {i:TI} (hi:E.ti t=some i) (hn:(match i.d with| .other=>false|_=>true)=true) {x:Value} {a:AV Ty} (hx:VRep E F w hp vals x a) {av:AV Ty} (h:(loadT E hp i a).val=some av):
  ∃v,(Instr.loadAt t x).run P w= .ok v w∧VRep E F w hp vals v av:=by
 have hagg:=isAgg_ok K hi hn w
 obtain ⟨j,hj1,hj2,_⟩:=K.info t i hi
 have fin: ∀(b base:Nat) (r:Nat) (p:Path) (m:Bool) (t':Nat) (xs:List (Ty t')) (k o:Nat),(∀o a,(seenT r p k o (cellOf E m t' xs k o)).val=some a→ ∃v,w.cell? ⟨b,base+o,none⟩=some v∧VRep E F w hp vals v a)→
   (match isAggD i.d with
   |true=>(cellsT E r p m t' xs k o i.sz).bind fun l=>T.ret (AV.agg l)
   |false=>seenT r p k o (cellOf E m t' xs k o)).val=some av→ ∃v,(Instr.loadAt t (.pointer (some ⟨b,base+o,none⟩))).run P w= .ok v w∧VRep E F w hp vals v av:=by
  intro b base r p m t' xs k o hs h
  unfold Instr.loadAt loadVar
  simp only [Instr.sureAddr,Pure.pure,Sem.bind,Bind.bind]
  cases hb:isAggD i.d with
  |true=>
   rw [hb] at h hagg
   obtain ⟨l,h1,h2⟩:=(T.val_bind _ _).1 h
   cases h2
   obtain ⟨vs,q1,q2,q3,q4⟩:=cells_ok hs i.sz o l h1
   refine ⟨.agg vs.toArray,?_, .agg _ _ (by simp [q1,q3]) (fun k v a e1 e2=>q4 k v a (by simpa using e1) e2)⟩
   have hl:=loadCells_ok (P:=P) (w:=w) (b:=b) (base:=base+o) (vs:=vs) i.sz 0 #[] (fun k hk=>by
    obtain ⟨v,e1,e2⟩:=q2 k hk
    exact ⟨v,e1,by rw [show base+o+(0+k)=base+(o+k) by omega];exact e2⟩) q1
   have:=Sem.run_bind (P:=P) (w:=w) (isAgg t) (fun b_1=>if b_1=true then (sizeOf t).bind fun n=>(loadCells ⟨b,base+o,none⟩ n).bind fun cs=>Sem.pure (Value.agg cs) else load ⟨b,base+o,none⟩)
   refine (this.trans ?_)
   rw [hagg]
   simp only [Result.andThen,if_true]
   rw [run_sizeOf hj1,hj2]
   refine (Sem.run_bind (P:=P) (w:=w) (loadCells ⟨b,base+o,none⟩ i.sz) _).trans ?_
   unfold loadCells
   rw [hl]
   simp [Result.andThen,Sem.run]
  |false=>
   rw [hb] at h hagg
   obtain ⟨v,e1,e2⟩:=hs o av h
   refine ⟨v,?_,e2⟩
   have:=Sem.run_bind (P:=P) (w:=w) (isAgg t) (fun b_1=>if b_1=true then (sizeOf t).bind fun n=>(loadCells ⟨b,base+o,none⟩ n).bind fun cs=>Sem.pure (Value.agg cs) else load ⟨b,base+o,none⟩)
   refine (this.trans ?_)
   rw [hagg]
   simp [Result.andThen,load,Sem.run,e1]
 unfold loadT at h
 split at h
 ·rename_i r p k o
  obtain ⟨R,b,off,c,row,h1,h2,h3,rfl⟩:=hx.ptr'
  rw [rowAt_of h1 h2] at h
  rw [←Nat.add_assoc]
  exact fin b _ r p R.m row.t row.xs k o (fun o a h=>by
   obtain ⟨v,e1,e2⟩:=seen_ok G H h1 h2 h3 h
   exact ⟨v,by rw [Nat.add_assoc];exact e1,e2⟩) h
 ·rename_i t' xs k o
  have hr:=hx.rp
  cases hr with
  |rp b off _ _ _ _ g hk hc hr=>
  rw [←Nat.add_assoc]
  exact fin b _ 0 [] false t' xs k o (fun o a h=>by
   obtain ⟨v,e1,e2⟩:=seenF_ok (hp:=hp) (vals:=vals) hc hr G hk h
   exact ⟨v,by rw [Nat.add_assoc];exact e1,e2⟩) h
 ·rename_i cs
  obtain ⟨b,q,vs,rfl,l,c0,c1⟩:=hx.vb'
  unfold Instr.loadAt loadVar
  simp only [Instr.sureAddr,Pure.pure,Sem.bind,Bind.bind]
  have:=Sem.run_bind (P:=P) (w:=w) (isAgg t) (fun b_1=>if b_1=true then (sizeOf t).bind fun n=>(loadCells ⟨b,q,none⟩ n).bind fun cs=>Sem.pure (Value.agg cs) else load ⟨b,q,none⟩)
  split at h
  ·rename_i hb
   split at h
   ·rename_i hle
    have hle:=Nat.le_of_ble_eq_true hle
    cases h
    have hlen:(vs.take i.sz).length=i.sz:=by rw [List.length_take];omega
    refine ⟨.agg (vs.take i.sz).toArray,this.trans ?_, .agg _ _ (by simp [l]) (fun k v a e1 e2=> ?_)⟩
    ·rw [hagg,hb]
     simp only [Result.andThen,if_true]
     rw [run_sizeOf hj1,hj2]
     refine (Sem.run_bind (P:=P) (w:=w) (loadCells ⟨b,q,none⟩ i.sz) _).trans ?_
     have hl:=loadCells_ok (P:=P) (w:=w) (b:=b) (base:=q) (vs:=vs.take i.sz) i.sz 0 #[] (fun k hk=>by
      have hk':k<vs.length:=by omega
      refine ⟨vs[k],?_,?_⟩
      ·rw [List.getElem?_take,if_pos hk,List.getElem?_eq_getElem hk']
      ·rw [show q+(0+k)=q+k by omega];exact (c0 k _ (List.getElem?_eq_getElem hk')).2) hlen
     unfold loadCells
     rw [hl]
     simp [Result.andThen,Sem.run]
    ·have e1:(vs.take i.sz)[k]? =some v:=by simpa using e1
     rw [List.getElem?_take] at e1 e2
     split at e1
     ·rename_i hk
      rw [if_pos hk] at e2
      exact c1 k v a e1 e2
     ·cases e1
   ·cases h
  ·rename_i hb
   split at h
   ·rename_i a l'
    cases h
    match vs,l,c0,c1 with
    |v :: vs,l,c0,c1=>
     refine ⟨v,this.trans ?_,c1 0 v _ rfl rfl⟩
     have e1:=(c0 0 v rfl).2
     rw [hagg,hb]
     simp [Result.andThen,load,Sem.run,show w.cell? ⟨b,q,none⟩=some v from e1]
    |[],l,_,_=>cases l
   ·cases h
 ·cases h
end
end Go.Proofs.Ytggibjbcbicpjaa.Ev
namespace Go.Proofs.Ytggibjbcbicpjaa.Ev
open Go
set_option linter.unusedVariables false
set_option linter.unusedSimpArgs false
section
variable {Ty:Nat→Type} {E:Tb Ty}
variable {F:Set2} {w:World} {hp:Heap Ty} {vals:Nat→Value} {sets:Nat→Set2} {P:Program}
theorem opT_val {α:Type} {o:Option α} {a:α} (h:(T.opt o).val=some a):o=some a:=by
 cases o with
 |none=>cases h
 |some b=>cases h;rfl
theorem ite_val {α:Type} {c:Prop} {d:Decidable c} {x y:T α} {a:α} (h:(T.ite c d x y).val=some a):(c∧x.val=some a)∨(¬c∧y.val=some a):=by
 simp only [T.val] at h
 split at h
 ·exact .inl ⟨‹_›,h⟩
 ·exact .inr ⟨‹_›,h⟩
theorem bt_of {s:ByteArray} {q:Int} (h1:q<s.size) (h0:0≤q):s[q.toNat]? =some (s[q.toNat]'(by omega))∧btI s q=((s[q.toNat]'(by omega)).toNat:Int):=by
 have h:q.toNat<s.size:=by omega
 refine ⟨getElem?_pos s _ h,?_⟩
 unfold btI
 rw [dif_pos h]
theorem asInt_of {v:Value} {a:AV Ty} {n:Int} (hv:VRep E F w hp vals v a) (h:intA a=some n): ∃k,v= .int k n:=by
 unfold intA at h
 split at h
 ·cases h;exact ⟨_,hv.v⟩
 ·cases h
theorem bound_ok {v:Value} {k:IntKind} {n:Int} {y:Nat} {code:BoundsCode} (hv:v= .int k n) (h0:0≤n) (hy:n≤y):Instr.sliceBound v y code=Sem.pure n.toNat:=by
 subst hv
 simp [Instr.sliceBound,asIntOf,Bind.bind,Sem.bind,Pure.pure,h0,hy]
theorem cut_ok {ρ:Operand→Value} {f:Operand→AV Ty} (hρ: ∀x,VRep E F w hp vals (ρ x) (f x)) {n cap:Nat} (hcap:n≤cap) {isS:Bool} (hS:isS=false→cap=n) {lo hi mx:Option Operand} {k:Nat→Nat→Bool→T (AV Ty)} {av:AV Ty}
  (h:(cutT n (lo.map f) (hi.map f) (mx.map f) k).val=some av):
  ∃l q m,Instr.sliceBounds isS n cap (lo.map ρ) (hi.map ρ) (mx.map ρ)=Sem.pure (l,q,m)∧l≤q∧q≤n∧((mx=none∧m=cap∧(k l q false).val=some av)∨(mx.isSome=true∧m=q∧(k l q true).val=some av)):=by
 unfold cutT at h
 have flo: ∀z,(match lo.map f with|none=>some 0|some a=>intA a)=some z→ ∀(q:Nat) (c:BoundsCode) (K:Nat→Sem (Nat×Nat×Nat)),0≤z→z≤q→(match lo.map ρ with|some v=>(Instr.sliceBound v q c).bind K|none=>K 0)=K z.toNat:=by
  intro z hz q c K h0 hq
  cases lo with
  |none=>cases hz;rfl
  |some x=>
   obtain ⟨k,hk⟩:=asInt_of (hρ x) hz
   simp only [Option.map_some]
   rw [bound_ok hk h0 hq]
   rfl
 split at h
 ·rename_i l0 h0 e1 e2
  split at h
  ·rename_i e3
   have hm:mx=none:=by cases mx<;>simp at e3;rfl
   subst hm
   rcases ite_val h with ⟨⟨g1,g2,g3⟩,h⟩|⟨_,h⟩
   ·refine ⟨l0.toNat,h0.toNat,cap,?_,by omega,by omega, .inl ⟨rfl,rfl,h⟩⟩
    unfold Instr.sliceBounds
    simp only [Option.map_none]
    have hh:(match hi.map ρ with|some v=>Instr.sliceBound v cap (if isS then BoundsCode.sliceAcap else BoundsCode.sliceAlen)|none=>Sem.pure n)=Sem.pure h0.toNat:=by
     cases hi with
     |none=>cases e2;simp
     |some x=>
      obtain ⟨k,hk⟩:=asInt_of (hρ x) e2
      exact bound_ok hk (by omega) (by omega)
    simp only [Pure.pure,Bind.bind,Sem.bind]
    cases hi with
    |none=>
     cases e2
     simp only [Option.map_none,Sem.bind]
     rw [show ((n:Int)).toNat=n by omega]
     exact flo l0 e1 n _ (fun l=>Sem.pure (l,n,cap)) g1 (by omega)
    |some x=>
     simp only [Option.map_some] at hh⊢
     rw [hh]
     simp only [Sem.bind]
     exact flo l0 e1 h0.toNat _ (fun l=>Sem.pure (l,h0.toNat,cap)) g1 (by omega)
   ·cases h
  ·rename_i a e3
   split at h
   ·rename_i m _ e4 e5
    rcases ite_val h with ⟨⟨g1,g2,g3,g4⟩,h⟩|⟨_,h⟩
    ·subst g4
     cases mx with
     |none=>simp at e3
     |some y=>
      cases hi with
      |none=>simp at e5
      |some x=>
       simp only [Option.map_some] at e2 e3 e4
       cases e3
       obtain ⟨k1,hk1⟩:=asInt_of (hρ x) e2
       obtain ⟨k2,hk2⟩:=asInt_of (hρ y) e4
       refine ⟨l0.toNat,m.toNat,m.toNat,?_,by omega,by omega, .inr ⟨rfl,rfl,h⟩⟩
       unfold Instr.sliceBounds
       simp only [Option.map_some,Pure.pure,Bind.bind]
       rw [bound_ok hk2 (by omega) (by omega)]
       simp only [Sem.bind]
       rw [bound_ok hk1 (by omega) (by omega)]
       simp only [Sem.bind]
       exact flo l0 e1 m.toNat _ (fun l=>Sem.pure (l,m.toNat,m.toNat)) g1 (by omega)
    ·cases h
   ·cases h
 ·cases h
theorem Rep.cut (G:Good E) {v:Value} {t:Nat} {xs:List (Ty t)} (h:Rep E F w v (.sl false t xs)) {l q:Nat} (hlq:l≤q) (hq:q≤xs.length) {A:Option Addr} {c m:Nat} (hv:v= .slice A xs.length c) (hm:q≤m) (hmc:m≤c):
  Rep E F w (.slice (if m=l then A else A.map (·.add (l*szOf E t))) (q-l) (m-l)) (.sl false t ((xs.drop l).take (q-l))):=by
 have hlen:((xs.drop l).take (q-l)).length=q-l:=by simp;omega
 by_cases hz:q-l=0
 ·have:((xs.drop l).take (q-l))=[]:=by rw [hz];rfl
  rw [this,hz]
  exact .nil _ _ _
 ·cases h with
  |nil A' c' t'=>simp at hq;omega
  |sl b off c' t' xs' g h1 h2 h3=>
   injection hv with e1 e2 e3
   subst e1 e3
   have hml: ¬m=l:=by omega
   rw [if_neg hml]
   simp only [Option.map_some,addr_add]
   have hget: ∀(i:Nat) x,((xs.drop l).take (q-l))[i]? =some x→xs[l+i]? =some x:=by
    intro i x e
    rw [List.getElem?_take] at e
    split at e
    ·rw [List.getElem?_drop] at e;exact e
    ·cases e
   have key:=Rep.sl (E:=E) (F:=F) (w:=w) b (off+l*szOf E t) (m-l) t ((xs.drop l).take (q-l)) (fun i o=>g (l+i) o) (by omega) (fun i x o a e1 e2=>by
    have:=h2 (l+i) x o a (hget i x e1) e2
    rw [Nat.add_mul] at this
    rw [show off+l*szOf E t+(i*szOf E t+o)=off+(l*szOf E t+i*szOf E t+o) by omega]
    exact this) (fun i x o a e1 e2=>h3 (l+i) x o a (hget i x e1) e2)
   rw [hlen] at key
   exact key
theorem ViewOk.cut {z n:Nat} {u:Value} {vw:Option (Nat×Nat)} {full f:Bool} {v:Value} {t:Nat} {xs:List (Ty t)} (h:ViewOk z n u vw full v) (hu:(∃A,u= .slice A 0 0∧n=0)∨ ∃b off c,u= .slice (some ⟨b,off,none⟩) n c∧n≤c) (hn:xs.length=n)
  {A:Option Addr} {c:Nat} (hv:v= .slice A (vlen xs vw) c) {l q m:Nat} (hlq:l≤q) (hq:q≤vlen xs vw) (hm:q≤m) (hmc:m≤c) (hf:f=true→m=q):
  ViewOk z n u (some (voff vw+l,q-l)) f (.slice (if m=l then A else A.map (·.add (l*z))) (q-l) (m-l)):=by
 have base:voff vw+q≤n:=by
  cases vw with
  |none=>simp [vlen,voff] at hq ⊢; omega
  |some ok=>obtain ⟨o,k⟩:=ok;have:=h.1;simp [vlen,voff] at hq ⊢; omega
 refine ⟨by omega,?_⟩
 by_cases hml:m=l
 ·rw [if_pos hml]
  left
  have:q=l:=by omega
  subst this hml
  simp
 ·rw [if_neg hml]
  cases vw with
  |none=>
   obtain ⟨rfl,_⟩:=h
   rcases hu with ⟨A',rfl,h0⟩|⟨b,off,c1,rfl,hnc⟩
   ·injection hv with e1 e2 e3
    subst e3
    omega
   ·injection hv with e1 e2 e3
    subst e1 e3
    right
    exact ⟨b,off,c1,m-l,rfl,by simp [voff,addr_add],by omega,by simp [voff];omega,fun h=>by have:=hf h;omega⟩
  |some ok=>
   obtain ⟨o,k⟩:=ok
   obtain ⟨h1,⟨hk,A',rfl⟩|⟨b,off,c1,c',rfl,rfl,h2,h3,h4⟩⟩:=h
   ·injection hv with e1 e2 e3
    subst e3
    omega
   ·injection hv with e1 e2 e3
    subst e1 e3
    right
    refine ⟨b,off,c1,m-l,rfl,?_,by omega,by simp [voff];omega,fun h=>by have:=hf h;omega⟩
    simp only [Option.map_some,addr_add,voff,Nat.add_mul]
    rw [show off+(o*z+l*z)=off+o*z+l*z by omega]
theorem DOk.struct {Z:TypeId→Nat→Prop} {fs:List (Nat×Nat)} {d:TypeDesc} (h:DOk Z (.struct fs) d): ∃gs,d= .struct gs∧gs.size=fs.length∧ ∀(i:Nat) (p:Nat×Nat),fs[i]? =some p→ ∃f:Field,gs[i]? =some f∧f.offset=p.1∧f.type=p.2∧ ∃z,Z p.2 z∧z≠0:=by
 cases d<;>simp [DOk] at h
 exact ⟨_,rfl,h.1,fun i p hp=>by
  obtain ⟨f,h1,h2,h3,h4⟩:=h.2 i p.1 p.2 hp
  exact ⟨f,h1,h2,h3,h4⟩⟩
theorem equalIn_bool {t:Nat} (h1:P.underlying t=some .bool) (a b:Bool) (d:Nat) (w:World):(Op.equalIn (d+1) t (.bool a) (.bool b)).run P w= .ok (a == b) w:=by
 simp only [Op.equalIn,Bind.bind]
 rw [run_underlying h1]
 rfl
theorem equal_bool {t:Nat} (h1:P.underlying t=some .bool) (a b:Bool) (w:World):(Op.equal t (.bool a) (.bool b)).run P w= .ok (a == b) w:=equalIn_bool h1 a b 9999 w
theorem DOk.ptr {Z:TypeId→Nat→Prop} {e:Nat} {d:TypeDesc} (h:DOk Z (.ptr e) d):d= .pointer e:=by
 cases d<;>simp [DOk] at h
 subst h;rfl
theorem equalIn_ptr {t e:Nat} (h1:P.underlying t=some (.pointer e)) (a:Addr) (d:Nat) (w:World):(Op.equalIn (d+1) t (.pointer (some a)) (.pointer none)).run P w= .ok false w:=by
 simp only [Op.equalIn,Bind.bind]
 rw [run_underlying h1]
 rfl
theorem equal_ptr {t e:Nat} (h1:P.underlying t=some (.pointer e)) (a:Addr) (w:World):(Op.equal t (.pointer (some a)) (.pointer none)).run P w= .ok false w:=equalIn_ptr h1 a 9999 w
theorem equalIn_slice {t e:Nat} (h1:P.underlying t=some (.slice e)) (A:Option Addr) (n c d:Nat) (w:World):(Op.equalIn (d+1) t (.slice A n c) (.slice none 0 0)).run P w= .ok A.isNone w:=by
 simp only [Op.equalIn,Bind.bind]
 rw [run_underlying h1]
 cases A<;>rfl
theorem equal_slice {t e:Nat} (h1:P.underlying t=some (.slice e)) (A:Option Addr) (n c:Nat) (w:World):(Op.equal t (.slice A n c) (.slice none 0 0)).run P w= .ok A.isNone w:=equalIn_slice h1 A n c 9999 w
theorem slice_nil {o:Oper} {op:BinOp} {t t' e:Nat} {x y:Operand} (ho:o.op= .binOp op t x y t') (h1:P.underlying t=some (.slice e)) {ρ:Operand→Value} {A:Option Addr} {n c:Nat} (e1:ρ x= .slice A n c) (e2:ρ y= .slice none 0 0):
  (op= .eql→(execOp ρ o).run P w= .ok (.value (.bool A.isNone)) w)∧(op= .neq→(execOp ρ o).run P w= .ok (.value (.bool (!A.isNone))) w):=by
 obtain ⟨dd,_,ty,pos,af,gd⟩:=o
 subst ho
 refine ⟨fun h=> ?_,fun h=> ?_⟩
 ·subst h
  unfold execOp
  simp only [e1,e2]
  show (((Op.equal t (.slice A n c) (.slice none 0 0)).bind fun r=>Sem.pure (Value.bool r)).bind fun v=>Sem.pure (Next.value v)).run P w=_
  refine (Sem.run_bind (P:=P) (w:=w) ((Op.equal t (.slice A n c) (.slice none 0 0)).bind fun r=>Sem.pure (Value.bool r)) _).trans ?_
  refine (congrArg (fun z=>Result.andThen z _) (Sem.run_bind (P:=P) (w:=w) (Op.equal t (.slice A n c) (.slice none 0 0)) _)).trans ?_
  rw [equal_slice h1]
  rfl
 ·subst h
  unfold execOp
  simp only [e1,e2]
  show (((Op.equal t (.slice A n c) (.slice none 0 0)).bind fun r=>Sem.pure (Value.bool (!r))).bind fun v=>Sem.pure (Next.value v)).run P w=_
  refine (Sem.run_bind (P:=P) (w:=w) ((Op.equal t (.slice A n c) (.slice none 0 0)).bind fun r=>Sem.pure (Value.bool (!r))) _).trans ?_
  refine (congrArg (fun z=>Result.andThen z _) (Sem.run_bind (P:=P) (w:=w) (Op.equal t (.slice A n c) (.slice none 0 0)) _)).trans ?_
  rw [equal_slice h1]
  rfl
theorem isPtr_val {v:Value} {a:AV Ty} (h:VRep E F w hp vals v a) (hp':isPtr a=true): ∃ad,v= .pointer (some ad):=by
 cases a<;>first|(cases hp';done)|skip
 ·obtain ⟨_,_,_,_,_,_,_,_,e⟩:=h.ptr'
  exact ⟨_,e⟩
 ·cases h with|rep _ _ h=>cases h with|rp b off _ _ _ _ g=>exact ⟨_,rfl⟩
variable {ρ:Operand→Value} {st:St Ty}
theorem binA_ok (K:TbOk E P) {op:BinOp} {t t':Nat} {x y:Operand} {a b av:AV Ty} (hx:VRep E F w hp vals (ρ x) a) (hy:VRep E F w hp vals (ρ y) b) (h:(binA E op t a b).val=some av) (o:Oper) (ho:o.op= .binOp op t x y t'):
  ∃v,(execOp ρ o).run P w= .ok (.value v) w∧VRep E F w hp vals v av:=by
 unfold binA at h
 split at h
 ·rename_i a b
  have e1:=hx.v
  have e2:=hy.v
  split at h
  ·rename_i i1 i2 hi
   obtain ⟨d,h1,h2⟩:=K.und t _ hi
   have h3:=DOk.bool h2
   subst h3
   obtain ⟨dd,_,ty,pos,af,gd⟩:=o
   subst ho
   split at h
   ·cases h
    refine ⟨_,?_, .rep _ _ (.v _)⟩
    unfold execOp
    simp only [e1,e2]
    show (((Op.equal t (.bool a) (.bool b)).bind fun r=>Sem.pure (Value.bool r)).bind fun v=>Sem.pure (Next.value v)).run P w=_
    refine (Sem.run_bind (P:=P) (w:=w) ((Op.equal t (.bool a) (.bool b)).bind fun r=>Sem.pure (Value.bool r)) _).trans ?_
    refine (congrArg (fun z=>Result.andThen z _) (Sem.run_bind (P:=P) (w:=w) (Op.equal t (.bool a) (.bool b)) _)).trans ?_
    rw [equal_bool h1]
    rfl
   ·cases h
    refine ⟨_,?_, .rep _ _ (.v _)⟩
    unfold execOp
    simp only [e1,e2]
    show (((Op.equal t (.bool a) (.bool b)).bind fun r=>Sem.pure (Value.bool (!r))).bind fun v=>Sem.pure (Next.value v)).run P w=_
    refine (Sem.run_bind (P:=P) (w:=w) ((Op.equal t (.bool a) (.bool b)).bind fun r=>Sem.pure (Value.bool (!r))) _).trans ?_
    refine (congrArg (fun z=>Result.andThen z _) (Sem.run_bind (P:=P) (w:=w) (Op.equal t (.bool a) (.bool b)) _)).trans ?_
    rw [equal_bool h1]
    rfl
   ·cases h
  ·cases h
 ·rename_i A n c
  split at h
  ·rename_i i1 i2 e hi
   obtain ⟨d,h1,h2⟩:=K.und t _ hi
   have h3:=DOk.slice h2
   subst h3
   obtain ⟨k1,k2⟩:=slice_nil (w:=w) ho h1 hx.v hy.v
   split at h
   ·cases h;exact ⟨_,k1 rfl, .rep _ _ (.v _)⟩
   ·cases h;exact ⟨_,k2 rfl, .rep _ _ (.v _)⟩
   ·cases h
  ·cases h
 ·rename_i t2 xs
  split at h
  ·rename_i i1 i2 e hi
   obtain ⟨d,h1,h2⟩:=K.und t _ hi
   have h3:=DOk.slice h2
   subst h3
   have hs:=hx.sl
   have some_:0<xs.length→ ∃A c,ρ x= .slice (some A) xs.length c:=fun hp=>by
    generalize hv:ρ x=v at hs
    cases hs with
    |nil A c t=>simp at hp
    |sl b off c t xs g=>exact ⟨_,c,rfl⟩
   split at h
   ·rcases ite_val h with ⟨hp,h⟩|⟨_,h⟩
    ·cases h
     obtain ⟨A,c,ex⟩:=some_ hp
     exact ⟨_,(slice_nil (w:=w) ho h1 ex hy.v).1 rfl, .rep _ _ (.v _)⟩
    ·cases h
   ·rcases ite_val h with ⟨hp,h⟩|⟨_,h⟩
    ·cases h
     obtain ⟨A,c,ex⟩:=some_ hp
     exact ⟨_,(slice_nil (w:=w) ho h1 ex hy.v).2 rfl, .rep _ _ (.v _)⟩
    ·cases h
   ·cases h
  ·cases h
 ·obtain ⟨v,h1,h2⟩:=(T.val_bind _ _).1 h
  cases h2
  exact ⟨v,binV_ok ρ hx.v hy.v h1 w o ho, .rep _ _ (.v _)⟩
 ·split at h
  ·rename_i i1 i2 e hp' hi
   obtain ⟨ad,e1⟩:=isPtr_val hx hp'
   have e2:=hy.v
   obtain ⟨d,h1,h2⟩:=K.und t _ hi
   have h3:=DOk.ptr h2
   subst h3
   obtain ⟨dd,_,ty,pos,af,gd⟩:=o
   subst ho
   split at h
   ·cases h
    refine ⟨_,?_, .rep _ _ (.v _)⟩
    unfold execOp
    simp only [e1,e2]
    show (((Op.equal t (.pointer (some ad)) (.pointer none)).bind fun r=>Sem.pure (Value.bool r)).bind fun v=>Sem.pure (Next.value v)).run P w=_
    refine (Sem.run_bind (P:=P) (w:=w) ((Op.equal t (.pointer (some ad)) (.pointer none)).bind fun r=>Sem.pure (Value.bool r)) _).trans ?_
    refine (congrArg (fun z=>Result.andThen z _) (Sem.run_bind (P:=P) (w:=w) (Op.equal t (.pointer (some ad)) (.pointer none)) _)).trans ?_
    rw [equal_ptr h1]
    rfl
   ·cases h
    refine ⟨_,?_, .rep _ _ (.v _)⟩
    unfold execOp
    simp only [e1,e2]
    show (((Op.equal t (.pointer (some ad)) (.pointer none)).bind fun r=>Sem.pure (Value.bool (!r))).bind fun v=>Sem.pure (Next.value v)).run P w=_
    refine (Sem.run_bind (P:=P) (w:=w) ((Op.equal t (.pointer (some ad)) (.pointer none)).bind fun r=>Sem.pure (Value.bool (!r))) _).trans ?_
    refine (congrArg (fun z=>Result.andThen z _) (Sem.run_bind (P:=P) (w:=w) (Op.equal t (.pointer (some ad)) (.pointer none)) _)).trans ?_
    rw [equal_ptr h1]
    rfl
   ·cases h
  ·cases h
 ·cases h
theorem unA_ok {op:UnOp} {t:Nat} {x:Operand} {a av:AV Ty} (hx:VRep E F w hp vals (ρ x) a) (h:(unA op a).val=some av) (o:Oper) (ho:o.op= .unOp op t x): ∃v,(execOp ρ o).run P w= .ok (.value v) w∧VRep E F w hp vals v av:=by
 obtain ⟨dd,_,ty,pos,af,gd⟩:=o
 subst ho
 unfold unA at h
 split at h
 ·have e:=hx.v;cases h
  refine ⟨_,?_, .rep _ _ (.v _)⟩
  unfold execOp
  simp [e,Op.unary,Op.intArith,Bind.bind,Sem.bind,Pure.pure,Sem.run]
 ·have e:=hx.v;cases h
  refine ⟨_,?_, .rep _ _ (.v _)⟩
  unfold execOp
  simp [e,Op.unary,Op.intBits,bitsI,Bind.bind,Sem.bind,Pure.pure,Sem.run]
 ·have e:=hx.v;cases h
  refine ⟨_,?_, .rep _ _ (.v _)⟩
  unfold execOp
  simp [e,Op.unary,Bind.bind,Sem.bind,Pure.pure,Sem.run]
 ·cases h
theorem ptr_add {b off i o n:Nat} {z:Nat}:(⟨b,off+(i*z+o)+n,none⟩:Addr)=⟨b,off+(i*z+(o+n)),none⟩:=by rw [show off+(i*z+o)+n=off+(i*z+(o+n)) by omega]
theorem field_ok (K:TbOk E P) {s f:Nat} {x:Operand} {i:TI} {fs:List (Nat×Nat)} {q:Nat×Nat} (hi:E.ti s=some i) (hd:i.d= .struct fs) (hf:fs[f]? =some q) {a av:AV Ty} (hx:VRep E F w hp vals (ρ x) a)
  (h:(∃r p k o,a= .ptr r p k o∧av= .ptr r p k (o+q.1))∨(∃t xs k o,a= .rp t xs k o∧av= .rp t xs k (o+q.1))∨ ∃cs,a= .vb cs∧av= .vb (cs.drop q.1)) (o:Oper) (ho:o.op= .fieldAddr s x f): ∃v,(execOp ρ o).run P w= .ok (.value v) w∧VRep E F w hp vals v av:=by
 obtain ⟨dd,_,ty,pos,af,gd⟩:=o
 subst ho
 rcases h with ⟨r,p,k,o,rfl,rfl⟩|⟨t,xs,k,o,rfl,rfl⟩|⟨cs,rfl,rfl⟩
 ·obtain ⟨R,b,off,c,row,h1,h2,h3,e⟩:=hx.ptr'
  refine ⟨_,okB rfl (by rw [e];exact fieldAt_ok K hi hd hf b _ w),?_⟩
  rw [ptr_add]
  exact .ptr _ _ _ _ R b off c row h1 h2 h3
 ·have hr:=hx.rp
  generalize hv:ρ x=v at hr
  cases hr with
  |rp b off _ _ _ _ g hk hc hr=>
  refine ⟨_,okB rfl (by rw [hv];exact fieldAt_ok K hi hd hf b _ w),?_⟩
  rw [ptr_add]
  exact .rep _ _ (.rp b off _ _ _ _ g hk hc hr)
 ·obtain ⟨b,j,vs,e,l,c0,c1⟩:=hx.vb'
  refine ⟨_,okB rfl (by rw [e];exact fieldAt_ok K hi hd hf b j w), .vb b (j+q.1) (vs.drop q.1) _ (by simp [l]) (fun k v e=> ?_) (fun k v a e1 e2=> ?_)⟩
  ·rw [List.getElem?_drop] at e
   rw [show j+q.1+k=j+(q.1+k) by omega]
   exact c0 _ _ e
  ·rw [List.getElem?_drop] at e1 e2
   exact c1 _ _ _ e1 e2
theorem own_shape (G:Good E) (H:HRel E F w hp vals sets) {r:Nat} {p:Path} {R:Root Ty} {u:Value} {row:Row Ty} (h1:root hp r=some R) (h2:Loc E w R.m (vals r) R.t R.xs p u row):
  (∃A,u= .slice A 0 0∧row.xs.length=0)∨ ∃b off c,u= .slice (some ⟨b,off,none⟩) row.xs.length c∧row.xs.length≤c:=by
 obtain ⟨S,hO⟩:=H.at G h1 h2
 rcases hO.inv with ⟨⟨A,e⟩,e2,_⟩|⟨b,off,c,g,B,e,O⟩
 ·exact .inl ⟨A,e,by rw [e2];rfl⟩
 ·exact .inr ⟨b,off,c,e,O.le⟩
theorem index_ok (K:TbOk E P) (G:Good E) (H:HRel E F w hp vals sets) {t e:Nat} {i ie:TI} (hi:E.ti t=some i) (hd:i.d= .slice e) (he:E.ti e=some ie) {k:IntKind} {q:Int} {x ix:Operand} {a av:AV Ty} (hx:VRep E F w hp vals (ρ x) a) (hix:ρ ix= .int k q)
  (h:(indexT E hp ie q a).val=some av) (o:Oper) (ho:o.op= .indexAddr t x ix): ∃v,(execOp ρ o).run P w= .ok (.value v) w∧VRep E F w hp vals v av:=by
 obtain ⟨dd,_,ty,pos,af,gd⟩:=o
 subst ho
 unfold indexT at h
 split at h
 ·rename_i t' xs
  split at h
  ·rename_i hz
   have hz:=Nat.eq_of_beq_eq_true hz
   rcases ite_val h with ⟨g1,h⟩|⟨_,h⟩
   ·rcases ite_val h with ⟨g2,h⟩|⟨_,h⟩
    ·cases h
     have hr:=hx.sl
     generalize hv:ρ x=v at hr
     cases hr with
     |nil A c _=>simp at g2;omega
     |sl b off c _ _ g hl hc hr=>
     refine ⟨_,okB rfl (by rw [hv,hix];exact indexAt_ok K hi hd he b off xs.length c k q g1 g2 w),?_⟩
     rw [←hz,show off+q.toNat*szOf E t'=off+(q.toNat*szOf E t'+0) by omega]
     exact .rep _ _ (.rp b off t' xs q.toNat 0 g (by omega) hc hr)
    ·cases h
   ·cases h
  ·cases h
 ·rename_i r p vw full
  obtain ⟨R,u,row,h1,h2,h3⟩:=hx.ref'
  rw [rowAt_of h1 h2] at h
  simp only at h
  split at h
  ·rename_i hz
   have hz:=Nat.eq_of_beq_eq_true hz
   rcases ite_val h with ⟨g1,h⟩|⟨_,h⟩
   ·rcases ite_val h with ⟨g2,h⟩|⟨_,h⟩
    ·cases h
     have hsh:=own_shape G H h1 h2
     cases vw with
     |none=>
      obtain ⟨hv,_⟩:=h3
      simp only [vlen] at g2
      rcases hsh with ⟨A,hu,hn⟩|⟨b,off,c,hu,_⟩
      ·omega
      ·refine ⟨_,okB rfl (by rw [hv,hu,hix];exact indexAt_ok K hi hd he b off row.xs.length c k q g1 g2 w),?_⟩
       rw [←hz,show off+q.toNat*szOf E row.t=off+((voff none+q.toNat)*szOf E row.t+0) by simp [voff]]
       exact .ptr r p _ 0 R b off c row h1 (hu▸h2) (by simp [voff];omega)
     |some ok=>
      obtain ⟨o,n⟩:=ok
      simp only [vlen] at g2
      obtain ⟨hon,⟨h0,_⟩|⟨b,off,c,c',hu,hv,_⟩⟩:=h3
      ·omega
      ·refine ⟨_,okB rfl (by rw [hv,hix];exact indexAt_ok K hi hd he b _ n c' k q g1 g2 w),?_⟩
       rw [←hz,show off+o*szOf E row.t+q.toNat*szOf E row.t=off+((voff (some (o,n))+q.toNat)*szOf E row.t+0) by simp [voff,Nat.add_mul];omega]
       exact .ptr r p _ 0 R b off c row h1 (hu▸h2) (by simp [voff];omega)
    ·cases h
   ·cases h
  ·cases h
 ·cases h
theorem DOk.arr {Z:TypeId→Nat→Prop} {n e:Nat} {d:TypeDesc} (h:DOk Z (.arr n e) d):d= .array n e:=by
 cases d<;>simp [DOk] at h
 obtain ⟨rfl,rfl⟩:=h
 rfl
theorem arrAt_ok (K:TbOk E P) {t n e:Nat} {i ie:TI} (hi:E.ti t=some i) (hd:i.d= .arr n e) (he:E.ti e=some ie) (b off:Nat) (k:IntKind) (q:Int) (h0:0≤q) (hn:q<n) (w:World):
  (Instr.indexAt t (.pointer (some ⟨b,off,none⟩)) (.int k q)).run P w= .ok (.pointer (some ⟨b,off+q.toNat*ie.sz,none⟩)) w:=by
 obtain ⟨d,h1,h2⟩:=K.und t i hi
 rw [hd] at h2
 have:=DOk.arr h2
 subst this
 obtain ⟨j,h3,h4,_⟩:=K.info _ _ he
 simp [Instr.indexAt,asIntOf,underlying,sizeOf,typeInfo,program,Instr.sureAddr,Bind.bind,Sem.bind,Sem.run,Pure.pure,h1,h3,h4,h0,hn,addr_add]
theorem arr_ok (K:TbOk E P) {t n e:Nat} {i ie:TI} (hi:E.ti t=some i) (hd:i.d= .arr n e) (he:E.ti e=some ie) {k:IntKind} {q:Int} {x ix:Operand} {a av:AV Ty} (hx:VRep E F w hp vals (ρ x) a) (hix:ρ ix= .int k q)
  (h:(arrT n ie q a).val=some av) (o:Oper) (ho:o.op= .indexAddr t x ix): ∃v,(execOp ρ o).run P w= .ok (.value v) w∧VRep E F w hp vals v av:=by
 obtain ⟨dd,_,ty,pos,af,gd⟩:=o
 subst ho
 unfold arrT at h
 split at h
 ·rename_i r p i0 o0
  rcases ite_val h with ⟨g1,h⟩|⟨_,h⟩
  ·rcases ite_val h with ⟨g2,h⟩|⟨_,h⟩
   ·cases h
    obtain ⟨R,b,off,c,row,h1,h2,h3,hv⟩:=hx.ptr'
    refine ⟨_,okB rfl (by rw [hv,hix];exact arrAt_ok K hi hd he b _ k q g1 g2 w),?_⟩
    rw [Nat.add_assoc,Nat.add_assoc]
    exact .ptr r p i0 _ R b off c row h1 h2 h3
   ·cases h
  ·cases h
 ·rename_i t' xs i0 o0
  rcases ite_val h with ⟨g1,h⟩|⟨_,h⟩
  ·rcases ite_val h with ⟨g2,h⟩|⟨_,h⟩
   ·cases h
    have hr:=hx.rp
    generalize hv:ρ x=v at hr
    cases hr with
    |rp b off _ _ _ _ g hk hc hr=>
    refine ⟨_,okB rfl (by rw [hv,hix];exact arrAt_ok K hi hd he b _ k q g1 g2 w),?_⟩
    rw [Nat.add_assoc,Nat.add_assoc]
    exact .rep _ _ (.rp b off t' xs i0 _ g hk hc hr)
   ·cases h
  ·cases h
 ·cases h
end
end Go.Proofs.Ytggibjbcbicpjaa.Ev
namespace Go.Proofs.Ytggibjbcbicpjaa.Ev
open Go
set_option linter.unusedVariables false
set_option linter.unusedSimpArgs false
section
variable {Ty:Nat→Type} {E:Tb Ty}
variable {F:Set2} {w:World} {hp:Heap Ty} {vals:Nat→Value} {sets:Nat→Set2} {P:Program} {ρ:Operand→Value}
def CRep (E:Tb Ty) (F:Set2) (w:World) (hp:Heap Ty) (vals:Nat→Value) (vs:List Value) (cs:List (AV Ty)):Prop:=
 vs.length=cs.length∧ ∀(i:Nat) v a,vs[i]? =some v→cs[i]? =some a→VRep E F w hp vals v a
theorem cellsOf_ok (G:Good E) (H:HRel E F w hp vals sets) {v:Value} {a:AV Ty} {ds:List (AV Ty)} (hv:VRep E F w hp vals v a) (h:cellsOfA a=some ds):CRep E F w hp vals v.cells.toList ds:=by
 have one: ∀v a,VRep E F w hp vals v a→v.cells= #[v]→CRep E F w hp vals v.cells.toList [a]:=by
  intro v a hv hc
  rw [hc]
  refine ⟨rfl,fun i v' a' e1 e2=> ?_⟩
  cases i with
  |zero=>cases e1;cases e2;exact hv
  |succ i=>simp at e1
 unfold cellsOfA at h
 split at h
 ·cases h
  obtain ⟨vs,rfl,h1,h2⟩:=hv.agg'
  exact ⟨by simpa [Value.cells] using h1,fun i v a e1 e2=>h2 i v a (by simpa [Value.cells] using e1) e2⟩
 ·split at h
  ·cases h
   rename_i x hx
   have e:=hv.v
   subst e
   exact one _ _ hv (by cases v<;>simp [oneC] at hx<;>rfl)
  ·cases h
 ·cases h
  rename_i b t xs
  refine one _ _ hv ?_
  cases hv with
  |rep _ _ h=>cases h<;>rfl
 ·cases h
  rename_i r p vw f
  obtain ⟨R,u,row,h1,h2,h3⟩:=hv.ref'
  refine one _ _ hv ?_
  cases vw with
  |none=>
   obtain ⟨rfl,_⟩:=h3
   rcases own_shape G H h1 h2 with ⟨A,rfl,_⟩|⟨b,off,c,rfl,_⟩<;>rfl
  |some ok=>obtain ⟨o,k⟩:=ok;rcases h3 with ⟨_,⟨_,A,rfl⟩|⟨b,off,c,c',_,rfl,_⟩⟩<;>rfl
 ·cases h
  obtain ⟨R,b,off,c,row,h1,h2,h3,rfl⟩:=hv.ptr'
  exact one _ _ hv rfl
 ·cases h
  refine one _ _ hv ?_
  have:=hv.rp
  cases this
  rfl
 ·cases h
theorem foldl_cells: ∀(l:List Value) (k off:Nat) (cs:Array Value),off+k+l.length≤cs.size→
  ((l.zipIdx k).foldl (fun cs (c,j)=>cs.setIfInBounds (off+j) c) cs).toList=cs.toList.take (off+k)++l++cs.toList.drop (off+k+l.length)
 |[],k,off,cs,h=>by simp
 |v :: l,k,off,cs,h=>by
  simp only [List.zipIdx_cons,List.foldl_cons,List.length_cons] at h⊢
  rw [foldl_cells l (k+1) off _ (by simp;omega)]
  have hk:off+k<cs.toList.length:=by simp;omega
  simp only [Array.toList_setIfInBounds]
  rw [show off+(k+1)=off+k+1 by omega,List.take_succ_eq_append_getElem (by simpa using hk)]
  simp only [List.getElem_set_self,List.append_assoc,List.singleton_append]
  congr 1
  ·rw [List.take_set_of_le (by omega)]
  ·rw [List.drop_set_of_lt (by omega)]
   rw [show off+k+1+l.length=off+k+(l.length+1) by omega]
theorem fill_ok (K:TbOk E P) (G:Good E) (H:HRel E F w hp vals sets) {fr:List (Nat×AV Ty)} (hρ: ∀x,VRep E F w hp vals (ρ x) (opA fr x)) {fs:List (Nat×Nat)} {place:Nat→Option (Nat×Nat)}
  (hp': ∀(i:Nat) off t ti,fs[i]? =some (off,t)→E.ti t=some ti→place i=some (off,ti.sz)):
  ∀(l:List (Nat×Operand)) (ps:List (Nat×Nat×AV Ty)) (cells:Array Value) (cs cs':List (AV Ty)),placesA E fs fr l=some ps→CRep E F w hp vals cells.toList cs→fillA cs ps=some cs'→
   ∃cells',Instr.fill place cells (l.map fun (i,x)=>(i,ρ x))=some cells'∧CRep E F w hp vals cells'.toList cs'∧cs'.length=cs.length
 |[],ps,cells,cs,cs',h1,h2,h3=>by cases h1;cases h3;exact ⟨cells,rfl,h2,rfl⟩
 |(i,x) :: l,ps,cells,cs,cs',h1,h2,h3=>by
  unfold placesA at h1
  split at h1
  ·rename_i off t e1
   split at h1
   ·rename_i ti e2
    split at h1
    ·rename_i r e3
     cases h1
     unfold fillA at h3
     split at h3
     ·rename_i ds e4
      split at h3
      ·rename_i e5
       rw [Bool.and_eq_true] at e5
       have z1:=Nat.eq_of_beq_eq_true e5.1
       have z2:=Nat.le_of_ble_eq_true e5.2
       obtain ⟨c1,c2⟩:=cellsOf_ok G H (hρ x) e4
       obtain ⟨d1,d2⟩:=h2
       have hsz:(ρ x).cells.size=ds.length:=by simpa using c1
       have hcs:cells.size=cs.length:=by simpa using d1
       have hf:=foldl_cells (ρ x).cells.toList 0 off cells (by simp [hsz,hcs];omega)
       obtain ⟨cells',k1,k2,k3⟩:=fill_ok K G H hρ hp' l r (((ρ x).cells.zipIdx.foldl (fun cs (c,j)=>cs.setIfInBounds (off+j) c) cells)) _ cs' e3 (by
        have hz:(((ρ x).cells.zipIdx.foldl (fun cs (c,j)=>cs.setIfInBounds (off+j) c) cells)).toList=cells.toList.take off++(ρ x).cells.toList++cells.toList.drop (off+ds.length):=by
         rw [←Array.foldl_toList]
         rw [Array.toList_zipIdx]
         rw [hf]
         simp [hsz]
        rw [hz]
        refine ⟨by simp [hsz,hcs],fun k v a q1 q2=> ?_⟩
        rw [List.append_assoc] at q1 q2
        by_cases g1:k<off
        ·rw [List.getElem?_append_left (by simp;omega)] at q1
         rw [List.getElem?_append_left (by simp;omega)] at q2
         rw [List.getElem?_take,if_pos g1] at q1 q2
         exact d2 k v a q1 q2
        ·rw [List.getElem?_append_right (by simp;omega)] at q1
         rw [List.getElem?_append_right (by simp;omega)] at q2
         have t1:(cells.toList.take off).length=off:=by simp;omega
         have t2:(cs.take off).length=off:=by simp;omega
         rw [t1] at q1
         rw [t2] at q2
         by_cases g2:k-off<ds.length
         ·rw [List.getElem?_append_left (by simp;omega)] at q1
          rw [List.getElem?_append_left (by omega)] at q2
          exact c2 _ v a q1 q2
         ·rw [List.getElem?_append_right (by simp;omega)] at q1
          rw [List.getElem?_append_right (by omega)] at q2
          simp only [List.getElem?_drop,Array.length_toList,hsz] at q1 q2
          exact d2 _ v a q1 q2) h3
       refine ⟨cells',?_,k2,by rw [k3];simp;omega⟩
       simp only [List.map_cons,Instr.fill]
       rw [hp' i off t ti e1 e2]
       simp only
       rw [if_neg (by simp [hsz,hcs,z1];omega)]
       exact k1
      ·cases h3
     ·cases h3
    ·cases h1
   ·cases h1
  ·cases h1
theorem mapM_places: ∀(gs:List Field) (acc:List (Nat×Nat)),(∀f∈gs,∃j,P.info? f.type=some j)→ ∃ps:List (Nat×Nat),
  ((List.mapM.loop (fun (f:Field)=>((sizeOf f.type).bind fun n=>Sem.pure (f.offset,n))) gs acc:Sem (List (Nat×Nat)))).run P w= .ok (acc.reverse++ps) w∧ps.length=gs.length∧
   ∀(i:Nat) f j,gs[i]? =some f→P.info? f.type=some j→ps[i]? =some (f.offset,j.size)
 |[],acc,h=>⟨[],by simp [List.mapM.loop,Pure.pure,Sem.run],rfl,fun i f j e=>by simp at e⟩
 |f :: gs,acc,h=>by
  obtain ⟨j,hj⟩:=h f (by simp)
  obtain ⟨ps,h1,h2,h3⟩:=mapM_places gs ((f.offset,j.size) :: acc) (fun f' hf=>h f' (by simp [hf]))
  refine ⟨(f.offset,j.size) :: ps,?_,by simp [h2],fun i f' j' e1 e2=> ?_⟩
  ·unfold List.mapM.loop
   simp only [Bind.bind]
   have:((sizeOf f.type).bind fun n=>Sem.pure (f.offset,n)).run P w= .ok (f.offset,j.size) w:=by
    rw [run_sizeOf hj];rfl
   refine (Sem.run_bind (P:=P) (w:=w) ((sizeOf f.type).bind fun n=>Sem.pure (f.offset,n)) _).trans ?_
   rw [this]
   simp only [Result.andThen]
   rw [h1]
   simp
  ·cases i with
   |zero=>simp at e1;subst e1;rw [hj] at e2;cases e2;rfl
   |succ i=>simp at e1 ⊢; exact h3 i f' j' e1 e2
theorem zero_rep (K:TbOk E P) (G:Good E) {t:Nat} {i:TI} (hi:E.ti t=some i) (hh:E.has t=true): ∃j z,P.info? t=some j∧j.zero=some z∧CRep E F w hp vals z.cells.toList (((E.cod t).enc false (E.cod t).zero).map nilZ):=by
 obtain ⟨h1,j,z,h2,h3,h4,h5⟩:=K.zero t i hi hh
 refine ⟨j,z,h2,h3,by rw [List.length_map,G.len,h1];simpa using h4,fun o v a e1 e2=> ?_⟩
 rw [List.getElem?_map,Option.map_eq_some_iff] at e2
 obtain ⟨a,e2,rfl⟩:=e2
 obtain ⟨v',e3,h⟩:=h5 false o a e2
 have:v=v':=by simp only [Array.getElem?_toList] at e1;exact Option.some.inj (e1.symm.trans e3)
 subst this
 rcases h with ⟨rfl,_⟩|⟨q,t',rfl,rfl⟩
 ·exact .rep _ _ (.v _)
 ·exact .rep _ _ (.v _)
theorem build_ok (K:TbOk E P) (G:Good E) (H:HRel E F w hp vals sets) {fr:List (Nat×AV Ty)} (hρ: ∀x,VRep E F w hp vals (ρ x) (opA fr x)) {t:Nat} {i:TI} {fs:List (Nat×Nat)} (hi:E.ti t=some i) (hd:i.d= .struct fs) (hh:E.has t=true)
  {parts:Array (Nat×Operand)} {ps:List (Nat×Nat×AV Ty)} {cs:List (AV Ty)} (h1:placesA E fs fr parts.toList=some ps) (h2:fillA (((E.cod t).enc false (E.cod t).zero).map nilZ) ps=some cs) (o:Oper) (ho:o.op= .build t parts):
  ∃v,(execOp ρ o).run P w= .ok (.value v) w∧VRep E F w hp vals v (.agg cs):=by
 obtain ⟨dd,_,ty,pos,af,gd⟩:=o
 subst ho
 obtain ⟨j,z,k1,k2,k3⟩:=zero_rep (F:=F) (w:=w) (hp:=hp) (vals:=vals) K G hi hh
 obtain ⟨d,g1,g2⟩:=K.und t i hi
 rw [hd] at g2
 obtain ⟨gs,rfl,g3,g4⟩:=DOk.struct g2
 have hinfo: ∀f∈gs.toList,∃j,P.info? f.type=some j:=by
  intro f hf
  obtain ⟨i,hi1,hi2⟩:=List.getElem_of_mem hf
  have hlt:i<fs.length:=by rw [←g3];simpa using hi1
  obtain ⟨f',q1,q2,q3,z,⟨j,q4,_⟩,_⟩:=g4 i fs[i] (List.getElem?_eq_getElem hlt)
  have:f=f':=by
   rw [Array.getElem?_eq_getElem (by simpa using hi1)] at q1
   simp only [Array.getElem_toList] at hi2
   exact hi2.symm.trans (Option.some.inj q1)
  subst this
  exact ⟨j,q3▸q4⟩
 obtain ⟨pl,m1,m2,m3⟩:=mapM_places (P:=P) (w:=w) gs.toList [] hinfo
 obtain ⟨cells',f1,f2,f3⟩:=fill_ok (P:=P) (place:=(pl.toArray[·]?)) K G H hρ (fs:=fs) (fun i off t' ti e1 e2=>by
  obtain ⟨f',q1,q2,q3,z,⟨j,q4,q5⟩,_⟩:=g4 i _ e1
  obtain ⟨j',q6,q7,_⟩:=K.info _ _ e2
  simp only at q2 q3 q4
  have:j=j':=Option.some.inj (q4.symm.trans q6)
  subst this
  have:=m3 i f' j (by simpa using q1) (q3▸q4)
  rw [q2,q7] at this
  simpa using this) parts.toList ps z.cells _ cs h1 k3 h2
 refine ⟨.agg cells',okB rfl ?_, .agg _ _ (by simpa using f2.1) (fun i v a e1 e2=>f2.2 i v a (by simpa using e1) e2)⟩
 unfold Instr.build
 simp only [zeroValue,typeInfo,program,Bind.bind,Sem.bind,Sem.run,k1,k2,Pure.pure]
 rw [run_underlying g1]
 simp only
 rw [Array.mapM_eq_mapM_toList]
 have hm:(gs.toList.mapM (fun (f:Field)=>((sizeOf f.type).bind fun n=>Sem.pure (f.offset,n))):Sem (List (Nat×Nat))).run P w= .ok pl w:=by
  exact m1
 have hmap:(List.toArray <$> (gs.toList.mapM (fun (f:Field)=>((sizeOf f.type).bind fun n=>Sem.pure (f.offset,n))):Sem (List (Nat×Nat)))).run P w= .ok pl.toArray w:=by
  refine (Sem.run_bind (P:=P) (w:=w) (gs.toList.mapM (fun (f:Field)=>((sizeOf f.type).bind fun n=>Sem.pure (f.offset,n))):Sem (List (Nat×Nat))) (fun l=>Sem.pure l.toArray)).trans ?_
  rw [hm]
  rfl
 refine (Sem.run_bind (P:=P) (w:=w) _ _).trans ?_
 rw [hmap]
 simp only [Result.andThen,Array.toList_map]
 rw [f1]
 rfl
theorem buildArr_ok (K:TbOk E P) (G:Good E) (H:HRel E F w hp vals sets) {fr:List (Nat×AV Ty)} (hρ: ∀x,VRep E F w hp vals (ρ x) (opA fr x)) {t n e:Nat} {i ie:TI} (hi:E.ti t=some i) (hd:i.d= .arr n e) (hh:E.has t=true) (he:E.ti e=some ie)
  {parts:Array (Nat×Operand)} {ps:List (Nat×Nat×AV Ty)} {cs:List (AV Ty)} (h1:placesA E (arrF n e ie.sz) fr parts.toList=some ps) (h2:fillA (((E.cod t).enc false (E.cod t).zero).map nilZ) ps=some cs) (o:Oper) (ho:o.op= .build t parts):
  ∃v,(execOp ρ o).run P w= .ok (.value v) w∧VRep E F w hp vals v (.agg cs):=by
 obtain ⟨dd,_,ty,pos,af,gd⟩:=o
 subst ho
 obtain ⟨j,z,k1,k2,k3⟩:=zero_rep (F:=F) (w:=w) (hp:=hp) (vals:=vals) K G hi hh
 obtain ⟨d,g1,g2⟩:=K.und t i hi
 rw [hd] at g2
 have:=DOk.arr g2
 subst this
 obtain ⟨j',q6,q7,_⟩:=K.info _ _ he
 obtain ⟨cells',f1,f2,f3⟩:=fill_ok (P:=P) (place:=fun i=>some (i*j'.size,j'.size)) K G H hρ (fs:=arrF n e ie.sz) (fun i off t' ti e1 e2=>by
  unfold arrF at e1
  rw [List.getElem?_map] at e1
  obtain ⟨i',e3,e4⟩:=Option.map_eq_some_iff.1 e1
  rw [List.getElem?_eq_some_iff] at e3
  obtain ⟨hlt,e3⟩:=e3
  simp only [List.getElem_range] at e3
  subst e3
  simp only [Prod.mk.injEq] at e4
  obtain ⟨rfl,rfl⟩:=e4
  rw [he] at e2
  cases e2
  rw [q7]) parts.toList ps z.cells _ cs h1 k3 h2
 refine ⟨.agg cells',okB rfl ?_, .agg _ _ (by simpa using f2.1) (fun i v a e1 e2=>f2.2 i v a (by simpa using e1) e2)⟩
 unfold Instr.build
 simp only [zeroValue,typeInfo,program,Bind.bind,Sem.bind,Sem.run,k1,k2,Pure.pure]
 rw [run_underlying g1]
 simp only
 rw [run_sizeOf q6]
 simp only [Array.toList_map]
 rw [f1]
 rfl
end
end Go.Proofs.Ytggibjbcbicpjaa.Ev
namespace Go.Proofs.Ytggibjbcbicpjaa.Ev
open Go
set_option linter.unusedVariables false
set_option linter.unusedSimpArgs false
section
variable {Ty:Nat→Type} {E:Tb Ty}
variable {F:Set2} {w:World} {st:St Ty} {vals:Nat→Value} {sets:Nat→Set2} {P:Program} {ρ:Operand→Value}
theorem slice_str (K:TbOk E P) {t:Nat} {i:TI} (hi:E.ti t=some i) (hd:i.d= .str) {s:ByteArray} {lo hi':Option Value} {l q m:Nat} (hb:Instr.sliceBounds false s.size s.size lo hi' none=Sem.pure (l,q,m)):
  (Instr.sliceAt t (.string s) lo hi' none).run P w= .ok (.string (s.extract l q)) w:=by
 obtain ⟨d,h1,h2⟩:=K.und t i hi
 rw [hd] at h2
 have:=DOk.str h2
 subst this
 unfold Instr.sliceAt Instr.slice
 simp only [Bind.bind]
 rw [run_underlying h1]
 simp only
 rw [run_underlying h1]
 simp only [hb]
 rfl
theorem slice_sl (K:TbOk E P) {t e:Nat} {i ie:TI} (hi:E.ti t=some i) (hd:i.d= .slice e) (he:E.ti e=some ie) {A:Option Addr} {n c:Nat} {lo hi' mx:Option Value} {l q m:Nat} (hb:Instr.sliceBounds true n c lo hi' mx=Sem.pure (l,q,m)):
  (Instr.sliceAt t (.slice A n c) lo hi' mx).run P w= .ok (.slice (if m=l then A else A.map (·.add (l*ie.sz))) (q-l) (m-l)) w:=by
 obtain ⟨d,h1,h2⟩:=K.und t i hi
 rw [hd] at h2
 have:=DOk.slice h2
 subst this
 obtain ⟨j,h3,h4,_⟩:=K.info _ _ he
 unfold Instr.sliceAt Instr.slice
 simp only [Bind.bind]
 rw [run_underlying h1]
 simp only
 rw [run_underlying h1]
 simp only [hb,Sem.bind]
 rw [run_sizeOf h3,h4]
 rfl
theorem mem_args {c:Call} {l:List Operand} (h:c.args.toList=l):c.args=l.toArray:=by rw [←h]
theorem builtin_run {o:Oper} {c:Call} {b:Builtin} (ho:o.op= .call c) (hc:c.callee= .builtin b) {s:Sem Value} (hs: ∀cs,builtin b c.argTypes o.type cs (c.args.map ρ)=(do pure (.value (←s)))) {v:Value} {w':World} (h:s.run P w= .ok v w'):
  (execOp ρ o).run P w= .ok (.value v) w':=by
 refine okB (s:=s) ?_ h
 obtain ⟨dd,_,ty,pos,af,gd⟩:=o
 subst ho
 unfold execOp
 simp only [resolve,hc,Pure.pure,Bind.bind,Sem.bind,invoke]
 exact hs _
theorem fieldV_ok {P:Program} (K:TbOk E P) {s:Nat} {i:TI} {fs:List (Nat×Nat)} (hi:E.ti s=some i) (hd:i.d= .struct fs) {f off u:Nat} (hf:fs[f]? =some (off,u)) {iu:TI} (hu:E.ti u=some iu) (hone:cellD iu.d=true) {vs:Array Value} (hlt:off<vs.size) (w:World):
  (Instr.field s (.agg vs) f).run P w= .ok vs[off] w:=by
 obtain ⟨d,h1,h2⟩:=K.und s i hi
 rw [hd] at h2
 unfold DOk at h2
 split at h2<;>try contradiction
 rename_i gs fs' e
 cases e
 obtain ⟨fl,h3,h4,h5,z,_,h8⟩:=h2.2 f _ hf
 obtain ⟨d2,g1,g2⟩:=K.und u iu hu
 have h5:fl.type=u:=h5
 have h4:fl.offset=off:=h4
 cases hx:iu.d<;>rw [hx] at hone g2<;>first|(cases hone;done)|(cases d2<;>first|exact False.elim g2|simp [Instr.field,part,asAgg,isAgg,underlying,program,Bind.bind,Sem.bind,Sem.run,Pure.pure,h1,h3,h4,h5,g1,hlt])
theorem pureT_ok (K:TbOk E P) (G:Good E) (H:HRel E F w st.hp vals sets) (hρ: ∀x,VRep E F w st.hp vals (ρ x) (opA st.fr x)) (o:Oper) {av:AV Ty} (h:(pureT E st o.op).val=some av):
  ∃v,(execOp ρ o).run P w= .ok (.value v) w∧VRep E F w st.hp vals v av:=by
 unfold pureT at h
 split at h
 ·rename_i x ho
  cases h
  exact ⟨ρ x,by unfold execOp;rw [ho];rfl,hρ x⟩
 ·rename_i x ho
  cases h
  exact ⟨ρ x,by unfold execOp;rw [ho];rfl,hρ x⟩
 ·rename_i c a b ho
  split at h
  ·rename_i q hq
   have e:=hρ c
   rw [hq] at e
   have e:=e.v
   rcases ite_val h with ⟨hq',h⟩|⟨hq',h⟩
   ·cases h
    subst hq'
    exact ⟨ρ a,by unfold execOp;rw [ho];simp [e,asBool,Bind.bind,Sem.bind,Pure.pure,Sem.run],hρ a⟩
   ·cases h
    have:q=false:=by cases q<;>simp_all
    subst this
    exact ⟨ρ b,by unfold execOp;rw [ho];simp [e,asBool,Bind.bind,Sem.bind,Pure.pure,Sem.run],hρ b⟩
  ·cases h
 ·rename_i op t x y t' ho
  exact binA_ok K (hρ x) (hρ y) h o ho
 ·rename_i op t x ho
  exact unA_ok (hρ x) h o ho
 ·rename_i s d x ho
  split at h
  ·rename_i i1 i2 k0 i3 i4 k k' n hs hd hx
   cases h
   have e:=hρ x
   rw [hx] at e
   have e:=e.v
   obtain ⟨d1,h1,h2⟩:=K.und _ _ hs
   have:=DOk.int h2
   subst this
   obtain ⟨d2,h3,h4⟩:=K.und _ _ hd
   have:=DOk.int h4
   subst this
   refine ⟨_,okB (s:=convert s d (ρ x)) (by unfold execOp;rw [ho]) ?_, .rep _ _ (.v _)⟩
   rw [e]
   unfold convert
   simp only [Bind.bind]
   rw [run_underlying h1,run_underlying h3]
   rfl
  ·cases h
 ·rename_i x i ho
  split at h
  ·rename_i cs hx
   have e:=hρ x
   rw [hx] at e
   obtain ⟨vs,e1,e2,e3⟩:=e.tup'
   have h:=opT_val h
   have hi:i<vs.size:=by rw [e2];exact get_lt h
   refine ⟨vs[i],okB (s:=Instr.extract (ρ x) i) (by unfold execOp;rw [ho]) ?_,e3 i _ _ (Array.getElem?_eq_getElem hi) h⟩
   rw [e1]
   simp [Instr.extract,hi,Pure.pure,Sem.run]
  ·cases h
 ·rename_i t x f ho
  split at h
  ·rename_i sz bt fs cs hi hx
   split at h
   ·rename_i off u hf
    split at h
    ·rename_i iu hu
     split at h
     ·rename_i hone
      have e:=hρ x
      rw [hx] at e
      obtain ⟨vs,e1,e2,e3⟩:=e.agg'
      have h:=opT_val h
      have hlt:off<vs.size:=by rw [e2];exact get_lt h
      refine ⟨vs[off],okB (s:=Instr.field t (ρ x) f) (by unfold execOp;rw [ho]) ?_,e3 off _ _ (Array.getElem?_eq_getElem hlt) h⟩
      rw [e1]
      exact fieldV_ok K hi rfl hf hu hone hlt w
     ·cases h
    ·cases h
   ·cases h
  ·cases h
 ·rename_i x ho
  split at h
  ·rename_i r p i q hx
   cases h
   have e:=hρ x
   rw [hx] at e
   obtain ⟨R,b,off,c,row,h1,h2,h3,e1⟩:=e.ptr'
   refine ⟨ρ x,?_,e⟩
   unfold execOp
   rw [ho]
   simp [e1,Pure.pure,Sem.run]
  ·rename_i t xs i q hx
   cases h
   have e:=hρ x
   rw [hx] at e
   refine ⟨ρ x,?_,e⟩
   have:=e.rp
   unfold execOp
   rw [ho]
   generalize hv:ρ x=v at this
   cases this
   simp [hv,Pure.pure,Sem.run]
  ·cases h
 ·rename_i s x f ho
  split at h
  ·rename_i i1 i2 fs hs
   split at h
   ·rename_i off t r p i q hf hx
    cases h
    have e:=hρ x
    rw [hx] at e
    exact field_ok K hs rfl hf e (.inl ⟨r,p,i,q,rfl,rfl⟩) o ho
   ·rename_i off t t' xs i q hf hx
    cases h
    have e:=hρ x
    rw [hx] at e
    exact field_ok K hs rfl hf e (.inr (.inl ⟨t',xs,i,q,rfl,rfl⟩)) o ho
   ·rename_i off t cs hf hx
    cases h
    have e:=hρ x
    rw [hx] at e
    exact field_ok K hs rfl hf e (.inr (.inr ⟨cs,rfl,rfl⟩)) o ho
   ·cases h
  ·cases h
 ·rename_i t x ix ho
  split at h
  ·rename_i i1 i2 e k q ht hix
   split at h
   ·rename_i ie he
    have e1:=hρ ix
    rw [hix] at e1
    exact index_ok K G H ht rfl he (hρ x) e1.v h o ho
   ·cases h
  ·rename_i i1 i2 n e k q ht hix
   split at h
   ·rename_i ie he
    have e1:=hρ ix
    rw [hix] at e1
    exact arr_ok K ht rfl he (hρ x) e1.v h o ho
   ·cases h
  ·cases h
 ·rename_i t x ix ho
  split at h
  ·rename_i i1 i2 s k q ht hx hix
   rcases ite_val h with ⟨g1,h⟩|⟨_,h⟩
   ·rcases ite_val h with ⟨g2,h⟩|⟨_,h⟩
    ·cases h
     have e1:=hρ x
     rw [hx] at e1
     have e1:=e1.v
     have e2:=hρ ix
     rw [hix] at e2
     have e2:=e2.v
     obtain ⟨d,h1,h2⟩:=K.und _ _ ht
     have:=DOk.str h2
     subst this
     obtain ⟨b1,b2⟩:=bt_of g2 g1
     refine ⟨_,okB (s:=Instr.index t (ρ x) (ρ ix)) (by unfold execOp;rw [ho]) ?_, .rep _ _ (.v _)⟩
     rw [e1,e2]
     unfold Instr.index
     simp only [asIntOf,Bind.bind,Sem.bind,Pure.pure]
     rw [run_underlying h1]
     simp only [g1,if_true,b1,b2]
     rfl
    ·cases h
   ·cases h
  ·cases h
 ·rename_i t a ho
  split at h
  ·rename_i i hi
   split at h
   ·cases h
   ·rename_i hn
    obtain ⟨v,h1,h2⟩:=load_ok K G H hi (by split<;>simp_all) (hρ a) h
    exact ⟨v,okB (s:=Instr.loadAt t (ρ a)) (by unfold execOp;rw [ho]) h1,h2⟩
  ·cases h
 ·rename_i t x lo hi mx ho
  split at h
  ·rename_i i1 i2 s ht hx
   split at h
   ·have e1:=hρ x
    rw [hx] at e1
    have e1:=e1.v
    obtain ⟨l,q,m,c1,c2,c3,c4⟩:=cut_ok (ρ:=ρ) (f:=opA st.fr) (mx:=none) hρ (Nat.le_refl _) (isS:=false) (fun _=>rfl) h
    rcases c4 with ⟨_,_,c4⟩|⟨c4,_⟩
    ·cases c4
     refine ⟨_,okB (s:=Instr.sliceAt t (ρ x) (lo.map ρ) (hi.map ρ) none) (by unfold execOp;rw [ho];rfl) ?_, .rep _ _ (.v _)⟩
     rw [e1]
     exact slice_str K ht rfl c1
    ·cases c4
   ·cases h
  ·rename_i i1 i2 e t' xs ht hx
   split at h
   ·rename_i ie he
    split at h
    ·rename_i hz
     have hz:=Nat.eq_of_beq_eq_true hz
     have e1:=hρ x
     rw [hx] at e1
     have e1:=e1.sl
     obtain ⟨A,c,e2,hc⟩:=e1.slen'
     obtain ⟨l,q,m,c1,c2,c3,c4⟩:=cut_ok (ρ:=ρ) (f:=opA st.fr) hρ hc (isS:=true) (fun h=>by cases h) h
     have hm:q≤m∧m≤c:=by rcases c4 with ⟨_,h,_⟩|⟨_,h,_⟩<;>omega
     have hav:av= .sl false t' ((xs.drop l).take (q-l)):=by rcases c4 with ⟨_,_,h⟩|⟨_,_,h⟩<;>cases h<;>rfl
     subst hav
     refine ⟨_,okB (s:=Instr.sliceAt t (ρ x) (lo.map ρ) (hi.map ρ) (mx.map ρ)) (by unfold execOp;rw [ho]) (by rw [e2];exact slice_sl K ht rfl he c1),?_⟩
     rw [←hz]
     exact .rep _ _ (e1.cut G c2 c3 e2 hm.1 hm.2)
    ·cases h
   ·cases h
  ·rename_i i1 i2 e r p vw full ht hx
   split at h
   ·rename_i ie m' row he hrow
    split at h
    ·rename_i hz
     have hz:=Nat.eq_of_beq_eq_true hz
     have e1:=hρ x
     rw [hx] at e1
     obtain ⟨R,u,row',h1,h2,h3⟩:=e1.ref'
     have:=rowAt_of h1 h2
     rw [this] at hrow
     cases hrow
     have hsh:=own_shape G H h1 h2
     obtain ⟨A,c,e2⟩:=h3.len (by rcases hsh with ⟨A,h,h'⟩|⟨b,off,c,h,_⟩<;>rw [h]<;>first|(rw [h'];exact ⟨_,_,rfl⟩)|exact ⟨_,_,rfl⟩) (xs:=row.xs) rfl
     have hc:vlen row.xs vw≤c:=by
      cases vw with
      |none=>
       obtain ⟨k1,_⟩:=h3
       rcases hsh with ⟨A',h,h'⟩|⟨b,off,c',h,h'⟩
       ·simp [vlen,h']
       ·rw [e2,h] at k1;injection k1 with _ _ k1;subst k1;exact h'
      |some ok=>
       obtain ⟨o1,k⟩:=ok
       obtain ⟨_,⟨k1,_⟩|⟨b,off,c1,c',_,k1,k2,_⟩⟩:=h3
       ·simp [vlen,k1]
       ·rw [e2] at k1;injection k1 with _ _ k1;subst k1;exact k2
     obtain ⟨l,q,m,c1,c2,c3,c4⟩:=cut_ok (ρ:=ρ) (f:=opA st.fr) hρ hc (isS:=true) (fun h=>by cases h) h
     have hm:q≤m∧m≤c:=by rcases c4 with ⟨_,h,_⟩|⟨_,h,_⟩<;>omega
     have hav: ∃f,av= .ref r p (some (voff vw+l,q-l)) f∧(f=true→m=q):=by
      rcases c4 with ⟨_,_,h⟩|⟨_,h',h⟩<;>cases h
      ·exact ⟨false,rfl,fun h=>by cases h⟩
      ·exact ⟨true,rfl,fun _=>h'⟩
     obtain ⟨f,rfl,hf⟩:=hav
     refine ⟨_,okB (s:=Instr.sliceAt t (ρ x) (lo.map ρ) (hi.map ρ) (mx.map ρ)) (by unfold execOp;rw [ho]) (by rw [e2];exact slice_sl K ht rfl he c1),?_⟩
     rw [←hz]
     refine .ref r p _ f _ R u row h1 h2 (h3.cut ?_ rfl e2 c2 c3 hm.1 hm.2 hf)
     rcases hsh with ⟨A',h,h'⟩|h
     ·exact .inl ⟨A',h,h'⟩
     ·exact .inr h
    ·cases h
   ·cases h
  ·cases h
 ·rename_i t parts ho
  split at h
  ·rename_i i1 i2 fs ht hh
   split at h
   ·rename_i ps h1
    split at h
    ·rename_i cs h2
     cases h
     exact build_ok K G H hρ ht rfl hh h1 h2 o ho
    ·cases h
   ·cases h
  ·rename_i i1 i2 n e ht hh
   split at h
   ·rename_i ie he
    split at h
    ·rename_i ps h1
     split at h
     ·rename_i cs h2
      cases h
      exact buildArr_ok K G H hρ ht rfl hh he h1 h2 o ho
     ·cases h
    ·cases h
   ·cases h
  ·cases h
 ·rename_i c ho
  split at h
  ·rename_i x hc hargs
   have hargs:=mem_args hargs
   split at h
   ·rename_i t hty
    have hty:c.argTypes= #[t]:=by rw [←Array.toArray_toList (xs:=c.argTypes),hty]
    split at h
    ·rename_i i1 i2 s ht hx
     cases h
     have e1:=hρ x
     rw [hx] at e1
     obtain ⟨d,h1,h2⟩:=K.und _ _ ht
     have:=DOk.str h2
     subst this
     refine ⟨_,builtin_run (s:=Builtin.len_ c.argTypes o.type (c.args.map ρ)) ho hc (fun cs=>rfl) ?_, .rep _ _ (.v _)⟩
     rw [hargs,hty]
     simp [Builtin.len_,e1.v,Bind.bind,underlying,program,h1,Sem.bind,Sem.run,Pure.pure,goInt]
    ·rename_i i1 i2 e b xs ht hx
     cases h
     have e1:=hρ x
     rw [hx] at e1
     obtain ⟨A,c',e2⟩:=e1.sl.slen
     obtain ⟨d,h1,h2⟩:=K.und _ _ ht
     have:=DOk.slice h2
     subst this
     refine ⟨_,builtin_run (s:=Builtin.len_ c.argTypes o.type (c.args.map ρ)) ho hc (fun cs=>rfl) ?_, .rep _ _ (.v _)⟩
     rw [hargs,hty]
     simp [Builtin.len_,e2,Bind.bind,underlying,program,h1,Sem.bind,Sem.run,Pure.pure,goInt]
    ·rename_i i1 i2 e r p vw f ht hx
     split at h
     ·rename_i m row hrow
      cases h
      have e1:=hρ x
      rw [hx] at e1
      obtain ⟨R,u,row',k1,k2,k3⟩:=e1.ref'
      have:=rowAt_of k1 k2
      rw [this] at hrow
      cases hrow
      have hsh:=own_shape G H k1 k2
      obtain ⟨A,c',e2⟩:=k3.len (by rcases hsh with ⟨A,h,h'⟩|⟨b,off,c,h,_⟩<;>rw [h]<;>first|(rw [h'];exact ⟨_,_,rfl⟩)|exact ⟨_,_,rfl⟩) (xs:=row.xs) rfl
      obtain ⟨d,h1,h2⟩:=K.und _ _ ht
      have:=DOk.slice h2
      subst this
      refine ⟨_,builtin_run (s:=Builtin.len_ c.argTypes o.type (c.args.map ρ)) ho hc (fun cs=>rfl) ?_, .rep _ _ (.v _)⟩
      rw [hargs,hty]
      simp [Builtin.len_,e2,Bind.bind,underlying,program,h1,Sem.bind,Sem.run,Pure.pure,goInt]
     ·cases h
    ·cases h
   ·cases h
  ·rename_i x y hc hargs
   have hargs:=mem_args hargs
   split at h
   ·rename_i k a k' b hx hy
    cases h
    have e1:=hρ x
    rw [hx] at e1
    have e2:=hρ y
    rw [hy] at e2
    refine ⟨_,builtin_run (s:=Builtin.min_ c.argTypes o.type (c.args.map ρ)) ho hc (fun cs=>rfl) ?_, .rep _ _ (.v _)⟩
    rw [hargs]
    simp [Builtin.min_,Builtin.min2,e1.v,e2.v,Bind.bind,Sem.bind,Sem.run,Pure.pure]
   ·cases h
  ·rename_i x y hc hargs
   have hargs:=mem_args hargs
   split at h
   ·rename_i k a k' b hx hy
    cases h
    have e1:=hρ x
    rw [hx] at e1
    have e2:=hρ y
    rw [hy] at e2
    refine ⟨_,builtin_run (s:=Builtin.max_ c.argTypes o.type (c.args.map ρ)) ho hc (fun cs=>rfl) ?_, .rep _ _ (.v _)⟩
    rw [hargs]
    simp [Builtin.max_,Builtin.max2,e1.v,e2.v,Bind.bind,Sem.bind,Sem.run,Pure.pure]
   ·cases h
  ·cases h
 ·cases h
end
end Go.Proofs.Ytggibjbcbicpjaa.Ev
namespace Go.Proofs.Ytggibjbcbicpjaa.Ev
open Go
set_option linter.unusedVariables false
set_option linter.unusedSimpArgs false
structure Wrote (w w':World) (b base:Nat) (vs:List Value):Prop where
 inn: ∀k v,vs[k]? =some v→w'.cell? ⟨b,base+k,none⟩=some v
 out: ∀b' j,¬(b'=b∧base≤j∧j<base+vs.length)→w'.cell? ⟨b',j,none⟩=w.cell? ⟨b',j,none⟩
 fro: ∀b' j,w'.frozen? ⟨b',j,none⟩=w.frozen? ⟨b',j,none⟩
 size:w'.heap.size=w.heap.size
 block: ∀k,(k≠b∨vs=[])→w'.heap[k]? =w.heap[k]?
 os:w'.os=w.os
 tape:w'.tape=w.tape
 output:w'.output=w.output
theorem frozen_setCell (w:World) (a:Addr) (v:Value) (b j:Nat):(w.setCell a v).frozen? ⟨b,j,none⟩=w.frozen? ⟨b,j,none⟩:=by
 simp only [World.setCell,World.frozen?,Array.getElem?_modify]
 by_cases h:a.block=b
 ·subst h
  simp only [if_true]
  cases hh:w.heap[a.block]? with
  |none=>rfl
  |some x=>cases x<;>rfl
 ·simp [h]
theorem wrote_one {w:World} {b j:Nat} {u v:Value} (h:w.cell? ⟨b,j,none⟩=some u):Wrote w (w.setCell ⟨b,j,none⟩ v) b j [v] where
 inn:=by
  intro k v' e
  cases k with
  |zero=>cases e;exact World.cell?_setCell_same _ _ _ h
  |succ k=>simp at e
 out:=by
  intro b' j' h'
  refine World.cell?_setCell_other _ _ _ _ (fun e=>h' ?_)
  injection e with e1 e2
  subst e1 e2
  exact ⟨rfl,Nat.le_refl _,by simp⟩
 fro:=fun b' j'=>frozen_setCell _ _ _ _ _
 size:=by simp
 block:=fun k hk=>Go.RowKit.Below.heap_setCell _ _ _ _ (fun e=>hk.elim (fun h=>h e) (fun h=>by cases h))
 os:=rfl
 tape:=rfl
 output:=rfl
theorem Wrote.cons {w w1 w2:World} {b base:Nat} {v:Value} {vs:List Value} (h1:Wrote w w1 b base [v]) (h2:Wrote w1 w2 b (base+1) vs):Wrote w w2 b base (v :: vs) where
 inn:=by
  intro k v' e
  cases k with
  |zero=>
   cases e
   rw [h2.out _ _ (by omega)]
   exact h1.inn 0 _ rfl
  |succ k=>
   have:=h2.inn k v' (by simpa using e)
   rw [show base+(k+1)=base+1+k by omega]
   exact this
 out:=by
  intro b' j h
  simp only [List.length_cons] at h
  rw [h2.out _ _ (by omega),h1.out _ _ (by simp;omega)]
 fro:=fun b' j=>(h2.fro b' j).trans (h1.fro b' j)
 size:=h2.size.trans h1.size
 block:=fun k hk=>by
  rcases hk with hk|hk
  ·exact (h2.block k (.inl hk)).trans (h1.block k (.inl hk))
  ·cases hk
 os:=h2.os.trans h1.os
 tape:=h2.tape.trans h1.tape
 output:=h2.output.trans h1.output
theorem Wrote.nil (w:World) (b base:Nat):Wrote w w b base []:=⟨fun k v e=>by simp at e,fun _ _ _=>rfl,fun _ _=>rfl,rfl,fun _ _=>rfl,rfl,rfl,rfl⟩
theorem storeCells_ok {P:Program} {b base:Nat}: ∀(vs:List Value) (i:Nat) (w:World),(∀k,k<vs.length→(∃u,w.cell? ⟨b,base+(i+k),none⟩=some u)∧w.frozen? ⟨b,base+(i+k),none⟩=false)→(∀v∈vs,oneC v=true)→
  ∃w',(storeCells ⟨b,base,none⟩ vs i).run P w= .ok () w'∧Wrote w w' b (base+i) vs
 |[],i,w,h,h1=>⟨w,rfl, .nil _ _ _⟩
 |v :: vs,i,w,h,h1=>by
  obtain ⟨⟨u,hu⟩,hf⟩:=h 0 (by simp)
  rw [Nat.add_zero] at hu hf
  have hw:=wrote_one (v:=v) hu
  obtain ⟨w',k1,k2⟩:=storeCells_ok (P:=P) (b:=b) (base:=base) vs (i+1) (w.setCell ⟨b,base+i,none⟩ v) (fun k hk=>by
   obtain ⟨⟨u',hu'⟩,hf'⟩:=h (k+1) (by simpa using hk)
   rw [show i+(k+1)=i+1+k by omega] at hu' hf'
   refine ⟨⟨u',?_⟩,?_⟩
   ·rw [hw.out _ _ (by simp;omega)];exact hu'
   ·rw [hw.fro];exact hf') (fun v' hv'=>h1 v' (by simp [hv']))
  refine ⟨w',?_, .cons hw (by rw [Nat.add_assoc];exact k2)⟩
  unfold storeCells
  simp only [store,Bind.bind,Sem.bind,addr_add]
  have hone:=h1 v (by simp)
  cases v<;>simp [oneC] at hone<;>simp only [Sem.run,hu,hf]<;>exact k1
section
variable {Ty:Nat→Type} {E:Tb Ty}
variable {F F':Set2} {w w':World}
structure Fresh (E:Tb Ty) (F:Set2) (w:World) (m:Bool) (vs:List Value) (cs:List (AV Ty)) (Bn:Nat→Set2):Prop where
 len:vs.length=cs.length
 one: ∀v∈vs,oneC v=true
 rep: ∀(k:Nat) v a,vs[k]? =some v→cs[k]? =some a→ ¬isOwn a→Rep E F w v a
 own: ∀(k:Nat) v t' ys,vs[k]? =some v→cs[k]? =some (.sl true t' ys)→Own E F w m v t' ys (Bn k)
 dj: ∀k k' b j,Bn k b j→Bn k' b j→k=k'
 rg: ∀k b j,Bn k b j→ ∃t' ys,cs[k]? =some (.sl true t' ys)
theorem Fresh.stable (G:Good E) {m:Bool} {vs:List Value} {cs:List (AV Ty)} {Bn:Nat→Set2} (h:Fresh E F w m vs cs Bn) (hF: ∀b j,F b j→F' b j∧w'.cell? ⟨b,j,none⟩=w.cell? ⟨b,j,none⟩)
  (hB: ∀k b j,Bn k b j→w'.cell? ⟨b,j,none⟩=w.cell? ⟨b,j,none⟩∧w'.frozen? ⟨b,j,none⟩=w.frozen? ⟨b,j,none⟩∧(F' b j→F b j)):Fresh E F' w' m vs cs Bn:=
 ⟨h.len,h.one,fun k v a e1 e2 e3=>(h.rep k v a e1 e2 e3).stable hF,fun k v t' ys e1 e2=>(h.own k v t' ys e1 e2).stable G hF (fun b j e=>⟨(hB k b j e).1,(hB k b j e).2.1⟩) (fun b j e=>(hB k b j e).2.2),h.dj,h.rg⟩
theorem OwnR.put (G:Good E) {m:Bool} {b off c t:Nat} {xs:List (Ty t)} {g:Nat→Nat→Value} {B:Nat→Nat→Set2} {S:Set2} (R:OwnR E F w m b off c t xs g B S) {i o:Nat} {x x':Ty t} (hx:xs[i]? =some x)
  {vs:List Value} {cs:List (AV Ty)} {Bn:Nat→Set2} (hn:Fresh E F w m vs cs Bn) (hW:Wrote w w' b (off+(i*szOf E t+o)) vs) (hoz:o+cs.length≤szOf E t)
  (hx':(E.cod t).enc m x'=((E.cod t).enc m x).take o++cs++((E.cod t).enc m x).drop (o+cs.length)) (hF: ∀b j,F b j→b<w.heap.size)
  (hS: ∀k b' j,Bn k b' j→S b' j→ ∃o2,o≤o2∧o2<o+cs.length∧B i o2 b' j):
  OwnR E F w' m b off c t (xs.set i x') (fun i2 o2=>if i2=i∧o≤o2∧o2<o+cs.length then vs.getD (o2-o) undef else g i2 o2)
   (fun i2 o2=>if i2=i∧o≤o2∧o2<o+cs.length then Bn (o2-o) else B i2 o2)
   (fun b' j'=>(b'=b∧off≤j'∧j'<off+c*szOf E t)∨ ∃i2 o2,(if i2=i∧o≤o2∧o2<o+cs.length then Bn (o2-o) b' j' else B i2 o2 b' j')):=by
 have hi:=get_lt hx
 have hin: ∀o2,o≤o2→o2<o+cs.length→i*szOf E t+o2<c*szOf E t:=fun o2 h1 h2=>lt_cells hi R.le (by omega)
 have hrow: ∀k b' j,Bn k b' j→ ¬(b'=b∧off≤j∧j<off+c*szOf E t):=by
  rintro k b' j h ⟨e0,e1,e2⟩
  subst e0
  obtain ⟨o2,_,_,h2⟩:=hS k _ j h ((R.iff _ _).2 (.inl ⟨rfl,e1,e2⟩))
  have:=R.dr i o2 (j-off) (by omega)
  rw [show off+(j-off)=j by omega] at this
  exact this h2
 have hrowF: ∀b' j,F b' j→w'.cell? ⟨b',j,none⟩=w.cell? ⟨b',j,none⟩:=by
  intro b' j h
  refine hW.out _ _ (fun ⟨e1,e2,e3⟩=> ?_)
  subst e1
  rw [hn.len] at e3
  have:=(R.cap (j-off) (by have:=hin (j-off-i*szOf E t) (by omega) (by omega);omega)).2.2
  rw [show off+(j-off)=j by omega] at this
  exact this h
 have hsubW: ∀b' j,¬(b'=b∧off≤j∧j<off+c*szOf E t)→w'.cell? ⟨b',j,none⟩=w.cell? ⟨b',j,none⟩:=by
  intro b' j h
  refine hW.out _ _ (fun ⟨e1,e2,e3⟩=>h ⟨e1,by omega,?_⟩)
  rw [hn.len] at e3
  have:=hin (j-off-i*szOf E t) (by omega) (by omega)
  omega
 have hget: ∀(i2:Nat) x2 (o2:Nat) a2,(xs.set i x')[i2]? =some x2→((E.cod t).enc m x2)[o2]? =some a2→
   (i2=i∧o≤o2∧o2<o+cs.length∧cs[o2-o]? =some a2)∨(¬(i2=i∧o≤o2∧o2<o+cs.length)∧ ∃x3,xs[i2]? =some x3∧((E.cod t).enc m x3)[o2]? =some a2):=by
  intro i2 x2 o2 a2 q1 q2
  rw [List.getElem?_set] at q1
  by_cases e:i=i2
  ·subst e
   rw [if_pos rfl,if_pos hi] at q1
   cases q1
   rw [hx',List.append_assoc] at q2
   have hl:=G.len t m x
   by_cases g1:o2<o
   ·rw [List.getElem?_append_left (by simp;omega),List.getElem?_take,if_pos g1] at q2
    exact .inr ⟨by omega,x,hx,q2⟩
   ·rw [List.getElem?_append_right (by simp;omega)] at q2
    have t1:(((E.cod t).enc m x).take o).length=o:=by simp;omega
    rw [t1] at q2
    by_cases g2:o2-o<cs.length
    ·rw [List.getElem?_append_left g2] at q2
     exact .inl ⟨rfl,by omega,by omega,q2⟩
    ·rw [List.getElem?_append_right (by omega),List.getElem?_drop] at q2
     rw [show o+cs.length+(o2-o-cs.length)=o2 by omega] at q2
     exact .inr ⟨by omega,x,hx,q2⟩
  ·rw [if_neg e] at q1
   exact .inr ⟨fun h=>e h.1.symm,x2,q1,q2⟩
 refine ⟨by rw [List.length_set];exact R.le,fun j hj=> ?_,fun i2 x2 o2 a2 q1 q2=> ?_,fun i2 x2 o2 a2 q1 q2 q3=> ?_,fun i2 x2 o2 t2 ys q1 q2=> ?_,fun i1 o1 i2 o2 b' j' q1 q2=> ?_,fun i2 o2 j hj q=> ?_,fun i2 o2 b' j' q=> ?_,fun b' j'=> ?_⟩
 ·obtain ⟨⟨v,hv⟩,h2,h3⟩:=R.cap j hj
  refine ⟨?_,(hW.fro _ _).trans h2,h3⟩
  by_cases e:off+(i*szOf E t+o)≤off+j∧off+j<off+(i*szOf E t+o)+vs.length
  ·obtain ⟨v',hv'⟩: ∃v',vs[j-(i*szOf E t+o)]? =some v':=⟨_,List.getElem?_eq_getElem (by omega)⟩
   have:=hW.inn _ _ hv'
   rw [show off+(i*szOf E t+o)+(j-(i*szOf E t+o))=off+j by omega] at this
   exact ⟨v',this⟩
  ·exact ⟨v,(hW.out _ _ (fun h=>e ⟨h.2.1,h.2.2⟩)).trans hv⟩
 ·rcases hget i2 x2 o2 a2 q1 q2 with ⟨rfl,h1,h2,h3⟩|⟨hne,x3,h1,h2⟩
  ·rw [if_pos ⟨rfl,h1,h2⟩]
   obtain ⟨v',hv'⟩: ∃v',vs[o2-o]? =some v':=⟨_,List.getElem?_eq_getElem (by have:=hn.len;omega)⟩
   rw [getD_of hv']
   have:=hW.inn _ _ hv'
   rw [show off+(i2*szOf E t+o)+(o2-o)=off+(i2*szOf E t+o2) by omega] at this
   exact this
  ·rw [if_neg hne]
   have hj:=G.lt R.le h1 h2
   have h4:=R.cell _ _ _ _ h1 h2
   rw [hW.out]
   ·exact h4
   ·rintro ⟨_,e1,e2⟩
    rw [hn.len] at e2
    have hlo2:o2<szOf E t:=by have:=get_lt h2;rw [G.len] at this;exact this
    have hii:i2=i:=by
     rcases Nat.lt_trichotomy i2 i with h|h|h
     ·have:(i2+1)*szOf E t≤i*szOf E t:=Nat.mul_le_mul_right _ h
      rw [Nat.succ_mul] at this
      omega
     ·exact h
     ·have:(i+1)*szOf E t≤i2*szOf E t:=Nat.mul_le_mul_right _ h
      rw [Nat.succ_mul] at this
      omega
    subst hii
    exact hne ⟨rfl,by omega,by omega⟩
 ·rcases hget i2 x2 o2 a2 q1 q2 with ⟨rfl,h1,h2,h3⟩|⟨hne,x3,h1,h2⟩
  ·rw [if_pos ⟨rfl,h1,h2⟩]
   obtain ⟨v',hv'⟩: ∃v',vs[o2-o]? =some v':=⟨_,List.getElem?_eq_getElem (by have:=hn.len;omega)⟩
   rw [getD_of hv']
   exact (hn.rep _ _ _ hv' h3 q3).stable fun b' j h=>⟨h,hrowF _ _ h⟩
  ·rw [if_neg hne]
   exact (R.rep _ _ _ _ h1 h2 q3).stable fun b' j h=>⟨h,hrowF _ _ h⟩
 ·rcases hget i2 x2 o2 _ q1 q2 with ⟨rfl,h1,h2,h3⟩|⟨hne,x3,h1,h2⟩
  ·rw [if_pos ⟨rfl,h1,h2⟩,if_pos ⟨rfl,h1,h2⟩]
   obtain ⟨v',hv'⟩: ∃v',vs[o2-o]? =some v':=⟨_,List.getElem?_eq_getElem (by have:=hn.len;omega)⟩
   rw [getD_of hv']
   refine (hn.own _ _ _ _ hv' h3).stable G (fun b' j h=>⟨h,hrowF _ _ h⟩) (fun b' j h=>⟨hsubW _ _ (fun e=>hrow _ _ _ h e),hW.fro _ _⟩) (fun b' j _ h=>h)
  ·rw [if_neg hne,if_neg hne]
   refine (R.own _ _ _ _ _ h1 h2).stable G (fun b' j h=>⟨h,hrowF _ _ h⟩) (fun b' j h=>⟨hsubW _ _ (fun e=> ?_),hW.fro _ _⟩) (fun b' j _ h=>h)
   obtain ⟨rfl,e1,e2⟩:=e
   have:=R.dr i2 o2 (j-off) (by omega)
   rw [show off+(j-off)=j by omega] at this
   exact this h
 ·split at q1<;>split at q2
  ·rename_i e1 e2
   have:=hn.dj _ _ _ _ q1 q2
   exact ⟨e1.1.trans e2.1.symm,by omega⟩
  ·rename_i e1 e2
   obtain ⟨o3,a1,a2,a3⟩:=hS _ _ _ q1 (R.sub q2)
   have:=R.dj _ _ _ _ _ _ q2 a3
   exact absurd ⟨this.1,by omega,by omega⟩ e2
  ·rename_i e1 e2
   obtain ⟨o3,a1,a2,a3⟩:=hS _ _ _ q2 (R.sub q1)
   have:=R.dj _ _ _ _ _ _ q1 a3
   exact absurd ⟨this.1,by omega,by omega⟩ e1
  ·exact R.dj _ _ _ _ _ _ q1 q2
 ·split at q
  ·exact hrow _ _ _ q ⟨rfl,by omega,by omega⟩
  ·exact R.dr _ _ _ hj q
 ·split at q
  ·rename_i e
   obtain ⟨t',ys,h⟩:=hn.rg _ _ _ q
   refine ⟨x',t',ys,by rw [e.1,List.getElem?_set,if_pos rfl,if_pos hi],?_⟩
   have hl:=G.len t m x
   rw [hx',List.append_assoc,List.getElem?_append_right (by simp;omega),List.getElem?_append_left (by simp;omega)]
   rw [show (((E.cod t).enc m x).take o).length=o by simp;omega]
   exact h
  ·rename_i e
   obtain ⟨x3,t',ys,h1,h2⟩:=R.rg _ _ _ _ q
   by_cases e2:i2=i
   ·subst e2
    rw [hx] at h1
    cases h1
    refine ⟨x',t',ys,by rw [List.getElem?_set,if_pos rfl,if_pos hi],?_⟩
    have hl:=G.len t m x
    have hlo:=get_lt h2
    rw [hx',List.append_assoc]
    by_cases g1:o2<o
    ·rw [List.getElem?_append_left (by simp;omega),List.getElem?_take,if_pos g1];exact h2
    ·rw [List.getElem?_append_right (by simp;omega),List.getElem?_append_right (by simp;omega),List.getElem?_drop]
     rw [show (((E.cod t).enc m x).take o).length=o by simp;omega]
     rw [show o+cs.length+(o2-o-cs.length)=o2 by omega]
     exact h2
   ·exact ⟨x3,t',ys,by rw [List.getElem?_set,if_neg (fun h=>e2 h.symm)];exact h1,h2⟩
 ·constructor
  ·rintro (h|⟨i2,o2,h⟩)
   ·exact .inl h
   ·refine .inr ⟨i2,o2,?_⟩
    split<;>rename_i e
    ·rw [if_pos e] at h;exact h
    ·rw [if_neg e] at h;exact h
  ·rintro (h|⟨i2,o2,h⟩)
   ·exact .inl h
   ·refine .inr ⟨i2,o2,?_⟩
    split at h<;>rename_i e
    ·rw [if_pos e];exact h
    ·rw [if_neg e];exact h
end
end Go.Proofs.Ytggibjbcbicpjaa.Ev
namespace Go.Proofs.Ytggibjbcbicpjaa.Ev
open Go
set_option linter.unusedVariables false
set_option linter.unusedSimpArgs false
section
variable {Ty:Nat→Type} {E:Tb Ty}
def ownQ (m:Bool) (old:AV Ty):Bool:=match old with
 | .sl false _ _=>false
 |_=>m
theorem ownQ_m {m:Bool} {old:AV Ty} (h:ownQ m old=true):m=true:=by
 unfold ownQ at h
 split at h
 ·cases h
 ·exact h
def toCell (m:Bool) (hp:Heap Ty) (old a:AV Ty):Option (AV Ty×Heap Ty×List (Nat×Nat)):=match a with
 | .v x=>match old with
  | .sl _ t _=>match x with
   | .slice none 0 0=>some (.sl (ownQ m old) t [],hp,[])
   |_=>none
  |_=>match oneC x with
   |true=>some (.v x,hp,[])
   |false=>none
 | .sl false t ys=>some (.sl false t ys,hp,[])
 | .ref r [] vw _=>match root hp r with
  |some R=>match ownQ m old with
   |false=>some (.sl false R.t (view R.xs vw),hp.set r none,[(r,0)])
   |true=>match R.m with
    |true=>some (.sl true R.t (view R.xs vw),hp.set r none,[(r,0)])
    |false=>none
  |none=>none
 |_=>none
def toCells (m:Bool):Heap Ty→List (AV Ty)→List (AV Ty)→Option (List (AV Ty)×Heap Ty×List (Nat×Nat))
 |hp,_,[]=>some ([],hp,[])
 |hp,olds,a :: l=>match toCell m hp (olds.headD .dead) a with
  |some (c,hp',ks)=>match toCells m hp' olds.tail l with
   |some (cs,hp'',ks')=>some (c :: cs,hp'',ks++ks')
   |none=>none
  |none=>none
variable {F F':Set2} {w w':World} {vals vals':Nat→Value} {sets:Nat→Set2}
theorem root_set {hp:Heap Ty} {r r':Nat} {x:Option (Root Ty)}:root (hp.set r x) r'=if r=r' then (if r<hp.length then x else none) else root hp r':=by
 unfold root
 rw [List.getElem?_set]
 by_cases h:r=r'
 ·subst h
  rw [if_pos rfl,if_pos rfl]
  by_cases h2:r<hp.length
  ·rw [if_pos h2,if_pos h2]
  ·rw [if_neg h2,if_neg h2]
 ·rw [if_neg h,if_neg h]
theorem root_lt {hp:Heap Ty} {r:Nat} {R:Root Ty} (h:root hp r=some R):r<hp.length:=by
 unfold root at h
 split at h
 ·rename_i x e;exact get_lt e
 ·cases h
theorem Own.view (G:Good E) {m:Bool} {u v:Value} {t:Nat} {xs:List (Ty t)} {S:Set2} {vw:Option (Nat×Nat)} {full:Bool} (h:Own E F w m u t xs S) (hv:ViewOk (szOf E t) xs.length u vw full v):
  ∃S',Own E F w m v t (Ev.view xs vw) S'∧ ∀b j,S' b j→S b j:=by
 cases vw with
 |none=>obtain ⟨rfl,_⟩:=hv;exact ⟨S,h,fun _ _ h=>h⟩
 |some ok=>
  obtain ⟨o,k⟩:=ok
  obtain ⟨h1,⟨rfl,A,rfl⟩|⟨b,off,c,c',rfl,rfl,h2,h3,h4⟩⟩:=hv
  ·refine ⟨fun _ _=>False,?_,fun _ _ h=>h.elim⟩
   have:Ev.view xs (some (o,0))=[]:=rfl
   rw [this]
   exact .nil A t _ (fun _ _ h=>h)
  ·rcases h.inv with ⟨⟨A,e⟩,e2,_⟩|⟨b',off',c1,g,B,e,R⟩
   ·injection e with _ _ e3
    subst e3
    have hk:k=0:=by omega
    subst hk
    have ho:o=0:=by omega
    have hc':c'=0:=by omega
    subst hc'
    refine ⟨fun _ _=>False,?_,fun _ _ h=>h.elim⟩
    have:Ev.view xs (some (o,0))=[]:=rfl
    rw [this]
    exact .nil _ t _ (fun _ _ h=>h)
   ·injection e with e1 _ e3
    injection e1 with e1
    injection e1 with e1 e4
    subst e1 e4 e3
    have hlen:(Ev.view xs (some (o,k))).length=k:=by simp [Ev.view];omega
    have hget: ∀(i:Nat) x,(Ev.view xs (some (o,k)))[i]? =some x→i<k∧xs[o+i]? =some x:=by
     intro i x e
     unfold Ev.view at e
     simp only at e
     rw [List.getElem?_take] at e
     split at e
     ·rw [List.getElem?_drop] at e;exact ⟨‹_›,e⟩
     ·cases e
    have hmul:o*szOf E t+c'*szOf E t≤c*szOf E t:=by rw [←Nat.add_mul];exact Nat.mul_le_mul_right _ h3
    have key:=OwnR.toOwn (E:=E) (F:=F) (w:=w) (m:=m) (b:=b) (off:=off+o*szOf E t) (c:=c') (t:=t) (xs:=Ev.view xs (some (o,k))) (g:=fun i q=>g (o+i) q)
     (B:=fun i q b' j=>i<k∧B (o+i) q b' j) (S:=fun b' j=>(b'=b∧off+o*szOf E t≤j∧j<off+o*szOf E t+c'*szOf E t)∨ ∃i q,i<k∧B (o+i) q b' j)
     ⟨by omega,fun j hj=>by
      have:=R.cap (o*szOf E t+j) (by omega)
      rw [←Nat.add_assoc] at this
      exact this,
     fun i x q a e1 e2=>by
      have:=R.cell _ _ _ _ (hget i x e1).2 e2
      rw [Nat.add_mul] at this
      rw [show off+o*szOf E t+(i*szOf E t+q)=off+(o*szOf E t+i*szOf E t+q) by omega]
      exact this,
     fun i x q a e1 e2 e3=>R.rep _ _ _ _ (hget i x e1).2 e2 e3,
     fun i x q t' ys e1 e2=>(R.own _ _ _ _ _ (hget i x e1).2 e2).congr fun b j=>⟨fun h=>h.2,fun h=>⟨(hget i x e1).1,h⟩⟩,
     fun i q i' q' b' j' e1 e2=>by have:=R.dj _ _ _ _ _ _ e1.2 e2.2;omega,
     fun i q j hj e=>by
      have:=R.dr (o+i) q (o*szOf E t+j) (by omega)
      rw [←Nat.add_assoc] at this
      exact this e.2,
     fun i q b' j' e=>by
      obtain ⟨x,t',ys,e1,e2⟩:=R.rg _ _ _ _ e.2
      refine ⟨x,t',ys,?_,e2⟩
      unfold Ev.view
      simp only
      rw [List.getElem?_take,if_pos e.1,List.getElem?_drop]
      exact e1,
     fun b' j'=>Iff.rfl⟩
    rw [hlen] at key
    refine ⟨_,key,fun b' j' h=>(R.iff _ _).2 ?_⟩
    rcases h with ⟨e1,e2,e3⟩|⟨i,q,_,h⟩
    ·exact .inl ⟨e1,by omega,by omega⟩
    ·exact .inr ⟨_,_,h⟩
structure Less (F F':Set2) (sets:Nat→Set2) (hp hp':Heap Ty) (ks:List (Nat×Nat)):Prop where
 sub: ∀r R,root hp' r=some R→root hp r=some R
 out: ∀r R,root hp r=some R→root hp' r=some R∨(root hp' r=none∧(r,0)∈ks)
 inc: ∀b j,F b j→F' b j
 fro: ∀b j,F' b j→F b j∨ ∃r R,root hp r=some R∧root hp' r=none∧sets r b j
 len:hp'.length=hp.length
theorem Less.refl (F:Set2) (sets:Nat→Set2) (hp:Heap Ty):Less F F sets hp hp []:=⟨fun _ _ h=>h,fun _ _ h=> .inl h,fun _ _ h=>h,fun _ _ h=> .inl h,rfl⟩
theorem Less.trans {F'':Set2} {hp hp' hp'':Heap Ty} {ks ks':List (Nat×Nat)} (h:Less F F' sets hp hp' ks) (k:Less F' F'' sets hp' hp'' ks'):Less F F'' sets hp hp'' (ks++ks') where
 sub:=fun r R e=>h.sub _ _ (k.sub _ _ e)
 out:=fun r R e=>by
  rcases h.out _ _ e with h1|⟨h1,h2⟩
  ·rcases k.out _ _ h1 with k1|⟨k1,k2⟩
   ·exact .inl k1
   ·exact .inr ⟨k1,by simp [k2]⟩
  ·refine .inr ⟨?_,by simp [h2]⟩
   cases e':root hp'' r with
   |none=>rfl
   |some R'=>have:=k.sub _ _ e';rw [h1] at this;cases this
 inc:=fun b j e=>k.inc _ _ (h.inc _ _ e)
 fro:=fun b j e=>by
  rcases k.fro _ _ e with e|⟨r,R,e1,e2,e3⟩
  ·rcases h.fro _ _ e with e|⟨r,R,e1,e2,e3⟩
   ·exact .inl e
   ·refine .inr ⟨r,R,e1,?_,e3⟩
    cases e':root hp'' r with
    |none=>rfl
    |some R'=>have:=k.sub _ _ e';rw [e2] at this;cases this
  ·exact .inr ⟨r,R,h.sub _ _ e1,e2,e3⟩
 len:=k.len.trans h.len
theorem toCell_ok (G:Good E) {m:Bool} {F0:Set2} {hp0 hp hp':Heap Ty} {ks:List (Nat×Nat)} {old a c:AV Ty} {v:Value} (H:HRel E F w hp vals sets) (hsub: ∀r R,root hp r=some R→root hp0 r=some R) (hF: ∀b j,F0 b j→F b j)
  (hv:VRep E F0 w hp0 vals v a) (h:toCell m hp old a=some (c,hp',ks)):
  ∃F' B,HRel E F' w hp' vals sets∧Less F F' sets hp hp' ks∧oneC v=true∧(¬isOwn c→Rep E F' w v c)∧(∀t ys,c= .sl true t ys→Own E F' w m v t ys B)∧
   (∀b j,B b j→isOwn c∧ ¬F' b j∧ ∃r R,root hp r=some R∧root hp' r=none∧sets r b j):=by
 unfold toCell at h
 split at h
 ·rename_i x
  have e:=hv.v
  subst e
  split at h
  ·rename_i t
   split at h
   ·cases h
    refine ⟨F,fun _ _=>False,H, .refl _ _ _,rfl,fun hn=> ?_,fun t' ys e=> ?_,fun b j h=>h.elim⟩
    ·revert hn
     generalize ownQ m _=q
     intro hn
     cases q
     ·exact .nil _ _ _
     ·exact absurd trivial hn
    ·injection e with e1 e2 e3
     subst e2
     cases e3
     exact .nil _ _ _ (fun _ _ h=>h)
   ·cases h
  ·split at h
   ·rename_i ho
    cases h
    exact ⟨F,fun _ _=>False,H, .refl _ _ _,ho,fun _=> .v _,fun t ys e=>(by cases e),fun b j h=>h.elim⟩
   ·cases h
 ·rename_i t ys
  cases h
  have hr:=hv.sl
  obtain ⟨A,n,e⟩:=hr.slen
  exact ⟨F,fun _ _=>False,H, .refl _ _ _,by rw [e];rfl,fun _=>hr.stable fun b j h=>⟨hF b j h,rfl⟩,fun t ys e=>(by cases e),fun b j h=>h.elim⟩
 ·rename_i r vw full
  obtain ⟨R0,u,row,k1,k2,k3⟩:=hv.ref'
  split at h
  ·rename_i R hR
   have hR0:=hsub r R hR
   rw [k1] at hR0
   cases hR0
   obtain ⟨rfl,rfl⟩:=k2
   have hO:=H.own r R0 hR
   have hlt:=root_lt hR
   have hroot: ∀r',root (hp.set r none) r'=if r=r' then none else root hp r':=by
    intro r'
    rw [root_set]
    split
    ·simp
    ·rfl
   have hone:oneC v=true:=by
    obtain ⟨A,n,e⟩:=ViewOk.len k3 (by obtain ⟨A,n,e⟩:=hO.head;exact ⟨A,n,e⟩) (xs:=R0.xs) rfl
    rw [e];rfl
   have less: ∀F',(∀b j,F b j→F' b j)→(∀b j,F' b j→F b j∨sets r b j)→Less F F' sets hp (hp.set r none) [(r,0)]:=fun F' h1 h2=> {
    sub:=fun r' R e=>by rw [hroot] at e;split at e<;>simp_all
    out:=fun r' R e=>by
     rw [hroot]
     by_cases e':r=r'
     ·subst e';exact .inr ⟨if_pos rfl,by simp⟩
     ·rw [if_neg e'];exact .inl e
    inc:=h1
    fro:=fun b j e=>by
     rcases h2 b j e with e|e
     ·exact .inl e
     ·exact .inr ⟨r,R0,hR,by rw [hroot,if_pos rfl],e⟩
    len:=List.length_set }
   have hrel: ∀F',(∀b j,F b j→F' b j)→(∀b j,F' b j→F b j∨sets r b j)→HRel E F' w (hp.set r none) vals sets:=fun F' h1 h2=> {
    own:=fun r' R' e=>by
     rw [hroot] at e
     split at e
     ·cases e
     ·rename_i hne
      refine (H.own r' R' e).stable G (fun b j h=>⟨h1 b j h,rfl⟩) (fun b j h=>⟨rfl,rfl⟩) (fun b j hs hf=> ?_)
      rcases h2 b j hf with h|h
      ·exact h
      ·exact absurd (H.dj _ _ _ _ hR e b j h hs) hne
    dj:=fun r1 r2 R1 R2 e1 e2 b j h1 h2=>by
     rw [hroot] at e1 e2
     split at e1
     ·cases e1
     ·split at e2
      ·cases e2
      ·exact H.dj _ _ _ _ e1 e2 b j h1 h2 }
   split at h
   ·cases h
    refine ⟨fun b j=>F b j∨sets r b j,fun _ _=>False,hrel _ (fun _ _ h=> .inl h) (fun _ _ h=>h),less _ (fun _ _ h=> .inl h) (fun _ _ h=>h),hone,fun _=> ?_,fun t ys e=>(by cases e),fun b j h=>h.elim⟩
    obtain ⟨S',h1,h2⟩:=hO.view G k3
    exact h1.rep G (fun _ _ h=> .inl h) (fun b j h=> .inr (h2 b j h))
   ·rename_i hq
    have hmm:=ownQ_m hq
    subst hmm
    split at h
    ·rename_i hm
     cases h
     obtain ⟨S',h1,h2⟩:=hO.view G k3
     rw [hm] at h1
     refine ⟨F,S',hrel _ (fun _ _ h=>h) (fun _ _ h=> .inl h),less _ (fun _ _ h=>h) (fun _ _ h=> .inl h),hone,fun hn=>absurd trivial hn,fun t ys e=> ?_,fun b j h=>⟨trivial,(h1.free b j h).2.2,r,R0,hR,by rw [hroot,if_pos rfl],h2 b j h⟩⟩
     injection e with e1 e2 e3
     subst e2
     cases e3
     exact h1
    ·cases h
  ·cases h
 ·cases h
theorem toCells_ok (G:Good E) {m:Bool} {F0:Set2} {hp0:Heap Ty}: ∀(as olds:List (AV Ty)) (F:Set2) (hp hp':Heap Ty) (ks:List (Nat×Nat)) (cs:List (AV Ty)) (vs:List Value),HRel E F w hp vals sets→(∀r R,root hp r=some R→root hp0 r=some R)→(∀b j,F0 b j→F b j)→
  CRep E F0 w hp0 vals vs as→toCells m hp olds as=some (cs,hp',ks)→
  ∃F' Bn,HRel E F' w hp' vals sets∧Less F F' sets hp hp' ks∧Fresh E F' w m vs cs Bn∧cs.length=as.length∧(∀k b j,Bn k b j→ ¬F' b j∧ ∃r R,root hp r=some R∧root hp' r=none∧sets r b j)
 |[],olds,F,hp,hp',ks,cs,vs,H,hsub,hF,hv,h=>by
  cases h
  have:vs=[]:=List.length_eq_zero_iff.1 hv.1
  subst this
  exact ⟨F,fun _ _ _=>False,H, .refl _ _ _,⟨rfl,by simp,fun k v a e=>by simp at e,fun k v t ys e=>by simp at e,fun k k' b j h=>h.elim,fun k b j h=>h.elim⟩,rfl,fun k b j h=>h.elim⟩
 |a :: as,olds,F,hp,hp',ks,cs,vs,H,hsub,hF,hv,h=>by
  unfold toCells at h
  split at h
  ·rename_i c hp1 ks1 e1
   split at h
   ·rename_i cs1 hp2 ks2 e2
    cases h
    cases vs with
    |nil=>have:=hv.1;simp at this
    |cons v vs=>
     obtain ⟨F1,B,H1,L1,o1,r1,w1,b1⟩:=toCell_ok G H hsub hF (hv.2 0 v a rfl rfl) e1
     obtain ⟨F2,Bn,H2,L2,f2,l2,b2⟩:=toCells_ok G as olds.tail F1 hp1 hp' ks2 cs1 vs H1 (fun r R e=>hsub _ _ (L1.sub _ _ e)) (fun b j h=>L1.inc _ _ (hF _ _ h)) ⟨by have:=hv.1;simpa using this,fun i v' a' q1 q2=>hv.2 (i+1) v' a' (by simpa using q1) (by simpa using q2)⟩ e2
     have gone: ∀r,root hp1 r=none→root hp' r=none:=fun r e=>by
      cases e':root hp' r with
      |none=>rfl
      |some R=>have:=L2.sub _ _ e';rw [e] at this;cases this
     have hB2: ∀b j,B b j→ ¬F2 b j:=by
      intro b j hb h2
      obtain ⟨_,h3,r,R,h4,h5,h6⟩:=b1 b j hb
      rcases L2.fro _ _ h2 with h|⟨r',R',q1,q2,q3⟩
      ·exact h3 h
      ·have:=H.dj _ _ _ _ h4 (L1.sub _ _ q1) b j h6 q3
       subst this
       rw [h5] at q1
       cases q1
     refine ⟨F2,fun k b j=>match k with|0=>B b j|k+1=>Bn k b j,H2,L1.trans L2,⟨by simp [f2.len],?_,?_,?_,?_,?_⟩,by simp [l2],?_⟩
     ·intro v' hv'
      rcases List.mem_cons.1 hv' with rfl|h
      ·exact o1
      ·exact f2.one _ h
     ·intro k v' a' q1 q2 q3
      cases k with
      |zero=>cases q1;cases q2;exact (r1 q3).stable fun b j h=>⟨L2.inc _ _ h,rfl⟩
      |succ k=>exact f2.rep k v' a' (by simpa using q1) (by simpa using q2) q3
     ·intro k v' t ys q1 q2
      cases k with
      |zero=>
       cases q1
       cases q2
       exact (w1 t ys rfl).stable G (fun b j h=>⟨L2.inc _ _ h,rfl⟩) (fun b j h=>⟨rfl,rfl⟩) (fun b j hb h2=>absurd h2 (hB2 _ _ hb))
      |succ k=>exact f2.own k v' t ys (by simpa using q1) (by simpa using q2)
     ·intro k k' b j q1 q2
      cases k with
      |zero=>
       cases k' with
       |zero=>rfl
       |succ k'=>
        obtain ⟨_,_,r,R,h4,h5,h6⟩:=b1 b j q1
        obtain ⟨_,r',R',q3,q4,q5⟩:=b2 k' b j q2
        have:=H.dj _ _ _ _ h4 (L1.sub _ _ q3) b j h6 q5
        subst this
        rw [h5] at q3
        cases q3
      |succ k=>
       cases k' with
       |zero=>
        obtain ⟨_,_,r,R,h4,h5,h6⟩:=b1 b j q2
        obtain ⟨_,r',R',q3,q4,q5⟩:=b2 k b j q1
        have:=H.dj _ _ _ _ h4 (L1.sub _ _ q3) b j h6 q5
        subst this
        rw [h5] at q3
        cases q3
       |succ k'=>have:=f2.dj _ _ _ _ q1 q2;omega
     ·intro k b j q
      cases k with
      |zero=>
       obtain ⟨h1,_⟩:=b1 b j q
       cases c with
       |sl o t ys=>
        cases o with
        |true=>exact ⟨t,ys,rfl⟩
        |false=>exact h1.elim
       |_=>exact h1.elim
      |succ k=>obtain ⟨t,ys,h⟩:=f2.rg k b j q;exact ⟨t,ys,by simpa using h⟩
     ·intro k b j q
      cases k with
      |zero=>
       obtain ⟨_,_,r,R,h4,h5,h6⟩:=b1 b j q
       exact ⟨hB2 _ _ q,r,R,h4,gone _ h5,h6⟩
      |succ k=>
       obtain ⟨h1,r',R',q3,q4,q5⟩:=b2 k b j q
       exact ⟨h1,r',R',L1.sub _ _ q3,q4,q5⟩
   ·cases h
  ·cases h
end
end Go.Proofs.Ytggibjbcbicpjaa.Ev
namespace Go.Proofs.Ytggibjbcbicpjaa.Ev
open Go
set_option linter.unusedVariables false
set_option linter.unusedSimpArgs false
section
variable {Ty:Nat→Type} {E:Tb Ty}
variable {F F':Set2} {w w':World} {hp hp':Heap Ty} {vals vals':Nat→Value} {sets sets':Nat→Set2} {P:Program}
theorem VRep.kill0 {ks:List (Nat×Nat)} (hst: ∀b j,F b j→F' b j∧w'.cell? ⟨b,j,none⟩=w.cell? ⟨b,j,none⟩) (hrep: ∀v a,Rep E F w v a→Rep E F' w' v a)
  (href: ∀v r p vw f,hit ks r p=false→VRep E F w hp vals v (.ref r p vw f)→VRep E F' w' hp' vals' v (.ref r p vw f))
  (hptr: ∀v r p i o,hit ks r p=false→VRep E F w hp vals v (.ptr r p i o)→VRep E F' w' hp' vals' v (.ptr r p i o))
  {v:Value} {a:AV Ty} (h:VRep E F w hp vals v a):VRep E F' w' hp' vals' v (Ev.kill0 ks a):=by
 cases a with
 |v x=>cases h with|rep _ _ h=>exact .rep _ _ (hrep _ _ h)
 |sl o t xs=>cases h with|rep _ _ h=>exact .rep _ _ (hrep _ _ h)
 |rp t xs i o=>cases h with|rep _ _ h=>exact .rep _ _ (hrep _ _ h)
 |box m' t x=>cases h with|rep _ _ h=>exact .rep _ _ (hrep _ _ h)
 |agg cs=>exact .dead _
 |tup cs=>exact .dead _
 |ext r p t xs=>exact .dead _
 |dead=>exact .dead _
 |mp kd q kv=>exact .mp _ _ _ _
 |vb cs=>exact .dead _
 |ref r p vw f=>
  cases e:hit ks r p with
  |true=>simp only [Ev.kill0,e];exact .dead _
  |false=>simp only [Ev.kill0,e];exact href _ _ _ _ _ e h
 |ptr r p i o=>
  cases e:hit ks r p with
  |true=>simp only [Ev.kill0,e];exact .dead _
  |false=>simp only [Ev.kill0,e];exact hptr _ _ _ _ _ e h
theorem VRep.kill1 {ks:List (Nat×Nat)} (hst: ∀b j,F b j→F' b j∧w'.cell? ⟨b,j,none⟩=w.cell? ⟨b,j,none⟩) (hrep: ∀v a,Rep E F w v a→Rep E F' w' v a)
  (href: ∀v r p vw f,hit ks r p=false→VRep E F w hp vals v (.ref r p vw f)→VRep E F' w' hp' vals' v (.ref r p vw f))
  (hptr: ∀v r p i o,hit ks r p=false→VRep E F w hp vals v (.ptr r p i o)→VRep E F' w' hp' vals' v (.ptr r p i o))
  {v:Value} {a:AV Ty} (h:VRep E F w hp vals v a):VRep E F' w' hp' vals' v (Ev.kill1 ks a):=by
 cases a with
 |agg cs=>
  obtain ⟨vs,rfl,h1,h2⟩:=h.agg'
  refine .agg vs _ (by simp [h1]) (fun i v a e1 e2=> ?_)
  rw [List.getElem?_map] at e2
  cases e3:cs[i]? with
  |none=>rw [e3] at e2;cases e2
  |some a'=>rw [e3] at e2;cases e2;exact VRep.kill0 hst hrep href hptr (h2 i v a' e1 e3)
 |vb cs=>
  obtain ⟨b,j,vs,rfl,h1,h0,h2⟩:=h.vb'
  refine .vb b j vs _ (by simp [h1]) (fun i v e=>⟨(hst _ _ (h0 i v e).1).1,(hst _ _ (h0 i v e).1).2.trans (h0 i v e).2⟩) (fun i v a e1 e2=> ?_)
  rw [List.getElem?_map] at e2
  cases e3:cs[i]? with
  |none=>rw [e3] at e2;cases e2
  |some a'=>rw [e3] at e2;cases e2;exact VRep.kill0 hst hrep href hptr (h2 i v a' e1 e3)
 |v x=>exact VRep.kill0 hst hrep href hptr h
 |sl o t xs=>exact VRep.kill0 hst hrep href hptr h
 |rp t xs i o=>exact VRep.kill0 hst hrep href hptr h
 |box m' t x=>exact VRep.kill0 hst hrep href hptr h
 |tup cs=>exact VRep.kill0 hst hrep href hptr h
 |dead=>exact VRep.kill0 hst hrep href hptr h
 |mp kd q kv=>exact VRep.kill0 hst hrep href hptr h
 |ext r p t xs=>exact VRep.kill0 hst hrep href hptr h
 |ref r p vw f=>exact VRep.kill0 hst hrep href hptr h
 |ptr r p i o=>exact VRep.kill0 hst hrep href hptr h
theorem VRep.killB {ks:List (Nat×Nat)} (hst: ∀b j,F b j→F' b j∧w'.cell? ⟨b,j,none⟩=w.cell? ⟨b,j,none⟩) (hrep: ∀v a,Rep E F w v a→Rep E F' w' v a)
  (href: ∀v r p vw f,hit ks r p=false→VRep E F w hp vals v (.ref r p vw f)→VRep E F' w' hp' vals' v (.ref r p vw f))
  (hptr: ∀v r p i o,hit ks r p=false→VRep E F w hp vals v (.ptr r p i o)→VRep E F' w' hp' vals' v (.ptr r p i o))
  {v:Value} {a:AV Ty} (h:VRep E F w hp vals v a):VRep E F' w' hp' vals' v (Ev.killB ks a):=by
 cases a with
 |tup cs=>
  obtain ⟨vs,rfl,h1,h2⟩:=h.tup'
  refine .tup vs _ (by simp [h1]) (fun i v a e1 e2=> ?_)
  rw [List.getElem?_map] at e2
  cases e3:cs[i]? with
  |none=>rw [e3] at e2;cases e2
  |some a'=>rw [e3] at e2;cases e2;exact VRep.kill1 hst hrep href hptr (h2 i v a' e1 e3)
 |v x=>exact VRep.kill1 hst hrep href hptr h
 |sl o t xs=>exact VRep.kill1 hst hrep href hptr h
 |rp t xs i o=>exact VRep.kill1 hst hrep href hptr h
 |box m' t x=>exact VRep.kill1 hst hrep href hptr h
 |agg cs=>exact VRep.kill1 hst hrep href hptr h
 |dead=>exact VRep.kill1 hst hrep href hptr h
 |vb cs=>exact VRep.kill1 hst hrep href hptr h
 |mp kd q kv=>exact VRep.kill1 hst hrep href hptr h
 |ext r p t xs=>exact VRep.kill1 hst hrep href hptr h
 |ref r p vw f=>exact VRep.kill1 hst hrep href hptr h
 |ptr r p i o=>exact VRep.kill1 hst hrep href hptr h
theorem VRep.all (hst: ∀b j,F b j→F' b j∧w'.cell? ⟨b,j,none⟩=w.cell? ⟨b,j,none⟩) (hrep: ∀v a,Rep E F w v a→Rep E F' w' v a)
  (href: ∀v r p vw f,VRep E F w hp vals v (.ref r p vw f)→VRep E F' w' hp' vals' v (.ref r p vw f))
  (hptr: ∀v r p i o,VRep E F w hp vals v (.ptr r p i o)→VRep E F' w' hp' vals' v (.ptr r p i o))
  {v:Value} {a:AV Ty} (h:VRep E F w hp vals v a):VRep E F' w' hp' vals' v a:=by
 induction h with
 |rep v a h=>exact .rep _ _ (hrep _ _ h)
 |ref r p vw full v R u row h1 h2 h3=>exact href _ _ _ _ _ (.ref r p vw full v R u row h1 h2 h3)
 |ptr r p i o R b off c row h1 h2 h3=>exact hptr _ _ _ _ _ (.ptr r p i o R b off c row h1 h2 h3)
 |agg vs cs h1 h2 ih=>exact .agg vs cs h1 ih
 |tup vs cs h1 h2 ih=>exact .tup vs cs h1 ih
 |dead v=>exact .dead _
 |mp v kd q kv=>exact .mp v kd q kv
 |vb b j vs cs h1 h0 h2 ih=>exact .vb b j vs cs h1 (fun i v e=>⟨(hst _ _ (h0 i v e).1).1,(hst _ _ (h0 i v e).1).2.trans (h0 i v e).2⟩) ih
 |ext v r p t xs=>exact .ext v r p t xs
theorem VRep.kill {ks:List (Nat×Nat)} (hst: ∀b j,F b j→F' b j∧w'.cell? ⟨b,j,none⟩=w.cell? ⟨b,j,none⟩) (hrep: ∀v a,Rep E F w v a→Rep E F' w' v a)
  (href: ∀v r p vw f,hit ks r p=false→VRep E F w hp vals v (.ref r p vw f)→VRep E F' w' hp' vals' v (.ref r p vw f))
  (hptr: ∀v r p i o,hit ks r p=false→VRep E F w hp vals v (.ptr r p i o)→VRep E F' w' hp' vals' v (.ptr r p i o))
  {v:Value} {a:AV Ty} (h:VRep E F w hp vals v a):VRep E F' w' hp' vals' v (Ev.killA ks a):=by
 cases ks with
 |nil=>exact h.all hst hrep (fun v r p vw f h=>href v r p vw f rfl h) (fun v r p i o h=>hptr v r p i o rfl h)
 |cons k l=>exact h.killB hst hrep href hptr
theorem hit_mem {ks:List (Nat×Nat)} {r:Nat} {p:Path} (h:hit ks r p=false) {n:Nat} (hm:(r,n)∈ks):p.length<n:=by
 induction ks with
 |nil=>cases hm
 |cons k l ih=>
  unfold hit at h
  split at h
  ·cases h
  ·rename_i e
   rcases List.mem_cons.1 hm with rfl|hm
   ·simp only [Nat.beq_refl,Bool.true_and] at e
    rcases Nat.lt_or_ge p.length n with h'|h'
    ·exact h'
    ·have:=Nat.ble_eq_true_of_le h'
     rw [e] at this
     cases this
   ·exact ih h hm
theorem Loc.stable {m:Bool}: ∀ {p:Path} {v:Value} {t:Nat} {xs:List (Ty t)} {u:Value} {row:Row Ty} {S:Set2},Loc E w m v t xs p u row→Own E F w m v t xs S→Good E→(∀b j,S b j→w'.cell? ⟨b,j,none⟩=w.cell? ⟨b,j,none⟩)→Loc E w' m v t xs p u row
 |[],_,_,_,_,_,_,h,_,_,_=>h
 |(i,o) :: p,v,t,xs,u,row,S,⟨b,off,c,x,t',ys,v',h1,h2,h3,h4,h5⟩,ho,G,hS=>by
  rcases ho.inv with ⟨_,hnil,_⟩|⟨b0,off0,c0,g,B,hv0,R⟩
  ·rw [hnil] at h2;simp at h2
  ·rw [h1] at hv0
   injection hv0 with e1 e2 e3
   injection e1 with e1
   injection e1 with e1 e4
   subst e1 e4 e3
   have hg:g i o=v':=Option.some.inj ((R.cell i x o _ h2 h3).symm.trans h4)
   have hsub:=R.own i x o t' ys h2 h3
   rw [hg] at hsub
   exact ⟨b,off,c,x,t',ys,v',h1,h2,h3,(hS _ _ (R.mem (G.lt R.le h2 h3))).trans h4,Loc.stable h5 hsub G (fun b' j' h=>hS _ _ (R.sub h))⟩
structure Cont (E:Tb Ty) (F:Set2) (w:World) (m:Bool) (t:Nat) (zs:List (Ty t)) (vs:List Value) (B:Nat→Nat→Set2):Prop where
 len:vs.length=zs.length*szOf E t
 one: ∀v∈vs,oneC v=true
 rep: ∀(i:Nat) x (o:Nat) a v,zs[i]? =some x→((E.cod t).enc m x)[o]? =some a→vs[i*szOf E t+o]? =some v→ ¬isOwn a→Rep E F w v a
 own: ∀(i:Nat) x (o:Nat) t' ys v,zs[i]? =some x→((E.cod t).enc m x)[o]? =some (.sl true t' ys)→vs[i*szOf E t+o]? =some v→Own E F w m v t' ys (B i o)
 dj: ∀i o i' o' b j,B i o b j→B i' o' b j→i=i'∧o=o'
 rg: ∀i o b j,B i o b j→ ∃x t' ys,zs[i]? =some x∧((E.cod t).enc m x)[o]? =some (.sl true t' ys)
theorem Cont.stable (G:Good E) {m:Bool} {t:Nat} {zs:List (Ty t)} {vs:List Value} {B:Nat→Nat→Set2} (h:Cont E F w m t zs vs B) (hF: ∀b j,F b j→F' b j∧w'.cell? ⟨b,j,none⟩=w.cell? ⟨b,j,none⟩)
  (hB: ∀i o b j,B i o b j→w'.cell? ⟨b,j,none⟩=w.cell? ⟨b,j,none⟩∧w'.frozen? ⟨b,j,none⟩=w.frozen? ⟨b,j,none⟩∧(F' b j→F b j)):Cont E F' w' m t zs vs B:=
 ⟨h.len,h.one,fun i x o a v e1 e2 e3 e4=>(h.rep i x o a v e1 e2 e3 e4).stable hF,
  fun i x o t' ys v e1 e2 e3=>(h.own i x o t' ys v e1 e2 e3).stable G hF (fun b j e=>⟨(hB i o b j e).1,(hB i o b j e).2.1⟩) (fun b j e=>(hB i o b j e).2.2),h.dj,h.rg⟩
theorem Cont.nil (m:Bool) (t:Nat):Cont E F w m t [] [] (fun _ _ _ _=>False):=
 ⟨by simp,by simp,fun i x o a v e=>by simp at e,fun i x o t' ys v e=>by simp at e,fun _ _ _ _ _ _ h=>h.elim,fun _ _ _ _ h=>h.elim⟩
theorem Cont.append {m:Bool} {t:Nat} {zs zs':List (Ty t)} {vs vs':List Value} {B B':Nat→Nat→Set2} (G:Good E) (h:Cont E F w m t zs vs B) (h':Cont E F w m t zs' vs' B') (hd: ∀i o i' o' b j,B i o b j→ ¬B' i' o' b j):
  Cont E F w m t (zs++zs') (vs++vs') (fun i o=>if i<zs.length then B i o else B' (i-zs.length) o):=by
 have split: ∀(i:Nat) x (o:Nat) a,(zs++zs')[i]? =some x→((E.cod t).enc m x)[o]? =some a→(i<zs.length∧zs[i]? =some x∧ ∀v,(vs++vs')[i*szOf E t+o]? =some v→vs[i*szOf E t+o]? =some v)∨
   (¬i<zs.length∧zs'[i-zs.length]? =some x∧ ∀v,(vs++vs')[i*szOf E t+o]? =some v→vs'[(i-zs.length)*szOf E t+o]? =some v):=by
  intro i x o a e1 e2
  have ho:o<szOf E t:=by have:=get_lt e2;rw [G.len] at this;exact this
  by_cases hi:i<zs.length
  ·refine .inl ⟨hi,by rw [List.getElem?_append_left hi] at e1;exact e1,fun v e=> ?_⟩
   rw [List.getElem?_append_left (by rw [h.len];exact lt_cells hi (Nat.le_refl _) ho)] at e
   exact e
  ·refine .inr ⟨hi,by rw [List.getElem?_append_right (by omega)] at e1;exact e1,fun v e=> ?_⟩
   have hge:zs.length*szOf E t≤i*szOf E t:=Nat.mul_le_mul_right _ (by omega)
   rw [List.getElem?_append_right (by rw [h.len];omega),h.len] at e
   rw [Nat.sub_mul]
   rw [show i*szOf E t-zs.length*szOf E t+o=i*szOf E t+o-zs.length*szOf E t by omega]
   exact e
 refine ⟨by simp [h.len,h'.len,Nat.add_mul],fun v hv=> ?_,fun i x o a v e1 e2 e3 e4=> ?_,fun i x o t' ys v e1 e2 e3=> ?_,fun i o i' o' b j e1 e2=> ?_,fun i o b j e=> ?_⟩
 ·rcases List.mem_append.1 hv with hv|hv
  ·exact h.one v hv
  ·exact h'.one v hv
 ·rcases split i x o a e1 e2 with ⟨_,k1,k2⟩|⟨_,k1,k2⟩
  ·exact h.rep i x o a v k1 e2 (k2 v e3) e4
  ·exact h'.rep _ x o a v k1 e2 (k2 v e3) e4
 ·rcases split i x o _ e1 e2 with ⟨k0,k1,k2⟩|⟨k0,k1,k2⟩
  ·rw [if_pos k0];exact h.own i x o t' ys v k1 e2 (k2 v e3)
  ·rw [if_neg k0];exact h'.own _ x o t' ys v k1 e2 (k2 v e3)
 ·split at e1<;>split at e2
  ·exact h.dj _ _ _ _ _ _ e1 e2
  ·exact absurd e2 (hd _ _ _ _ _ _ e1)
  ·exact absurd e1 (hd _ _ _ _ _ _ e2)
  ·have:=h'.dj _ _ _ _ _ _ e1 e2;omega
 ·split at e
  ·rename_i hi
   obtain ⟨x,t',ys,k1,k2⟩:=h.rg _ _ _ _ e
   exact ⟨x,t',ys,by rw [List.getElem?_append_left hi];exact k1,k2⟩
  ·rename_i hi
   obtain ⟨x,t',ys,k1,k2⟩:=h'.rg _ _ _ _ e
   exact ⟨x,t',ys,by rw [List.getElem?_append_right (by omega)];exact k1,k2⟩
theorem cell_alloc_old {w:World} {o:Obj} {b j:Nat} (h:b<w.heap.size):(w.alloc o).cell? ⟨b,j,none⟩=w.cell? ⟨b,j,none⟩:=World.cell?_alloc_lt _ _ _ h
theorem frozen_alloc_old {w:World} {o:Obj} {b j:Nat} (h:b<w.heap.size):(w.alloc o).frozen? ⟨b,j,none⟩=w.frozen? ⟨b,j,none⟩:=
 World.frozen?_of_block (w:=w) (Go.RowKit.Below.heap_alloc w o b h)
theorem frozen_alloc_new {w:World} {cs:Array Value} {T j:Nat}:(w.alloc (.cells cs T)).frozen? ⟨w.heap.size,j,none⟩=false:=by
 unfold World.frozen?
 show (match (w.heap.push (.cells cs T))[w.heap.size]? with|some (.cells _ _ (lo,hi))=>decide (lo≤j) && decide (j<hi)|_=>false)=false
 rw [Array.getElem?_push,if_pos rfl]
 simp
theorem cell_lt {w:World} {b j:Nat} {v:Value} (h:w.cell? ⟨b,j,none⟩=some v):b<w.heap.size:=by
 unfold World.cell? at h
 split at h
 ·rename_i e;exact (Array.getElem?_eq_some_iff.1 e).1
 ·cases h
theorem alloc_own (G:Good E) {m:Bool} {t:Nat} {zs:List (Ty t)} {vs:List Value} {B:Nat→Nat→Set2} (h:Cont E F w m t zs vs B) {c T:Nat} {cells:Array Value} (hc:cells.size=c*szOf E t) (hn:zs.length≤c) (hv: ∀(k:Nat) v,vs[k]? =some v→cells[k]? =some v)
  (hF: ∀b j,F b j→b<w.heap.size):Own E F (w.alloc (.cells cells T)) m (.slice (some ⟨w.heap.size,0,none⟩) zs.length c) t zs (fun b j=>(b=w.heap.size∧j<c*szOf E t)∨ ∃i o,B i o b j):=by
 have hB: ∀i o b j,B i o b j→b<w.heap.size:=by
  intro i o b j e
  obtain ⟨x,t',ys,k1,k2⟩:=h.rg _ _ _ _ e
  have hlt:i*szOf E t+o<vs.length:=by rw [h.len];exact G.lt (Nat.le_refl _) k1 k2
  obtain ⟨⟨u,hu⟩,_⟩:=(h.own i x o t' ys _ k1 k2 (List.getElem?_eq_getElem hlt)).free b j e
  exact cell_lt hu
 refine (OwnR.toOwn (g:=fun i o=>vs.getD (i*szOf E t+o) undef) (B:=B) ⟨hn,fun j hj=> ?_,fun i x o a e1 e2=> ?_,fun i x o a e1 e2 e3=> ?_,fun i x o t' ys e1 e2=> ?_,h.dj,fun i o j hj e=> ?_,h.rg,fun b' j'=> ?_⟩)
 ·simp only [Nat.zero_add]
  refine ⟨⟨cells[j]'(by omega),?_⟩,frozen_alloc_new,fun h=> ?_⟩
  ·rw [World.cell?_alloc_new,Array.getElem?_eq_getElem]
  ·have:=hF _ _ h;omega
 ·have hlt:i*szOf E t+o<vs.length:=by rw [h.len];exact G.lt (Nat.le_refl _) e1 e2
  simp only [Nat.zero_add]
  rw [World.cell?_alloc_new,getD_of (List.getElem?_eq_getElem hlt)]
  exact hv _ _ (List.getElem?_eq_getElem hlt)
 ·have hlt:i*szOf E t+o<vs.length:=by rw [h.len];exact G.lt (Nat.le_refl _) e1 e2
  rw [getD_of (List.getElem?_eq_getElem hlt)]
  exact (h.rep i x o a _ e1 e2 (List.getElem?_eq_getElem hlt) e3).stable fun b j h=>⟨h,cell_alloc_old (hF _ _ h)⟩
 ·have hlt:i*szOf E t+o<vs.length:=by rw [h.len];exact G.lt (Nat.le_refl _) e1 e2
  rw [getD_of (List.getElem?_eq_getElem hlt)]
  exact (h.own i x o t' ys _ e1 e2 (List.getElem?_eq_getElem hlt)).stable G (fun b j h=>⟨h,cell_alloc_old (hF _ _ h)⟩) (fun b j e=>⟨cell_alloc_old (hB _ _ _ _ e),frozen_alloc_old (hB _ _ _ _ e)⟩) (fun b j _ h=>h)
 ·have:=hB _ _ _ _ e;omega
 ·simp only [Nat.zero_add,Nat.zero_le,true_and]
structure Keep (X:Set2) (W w:World):Prop where
 os:w.os=W.os
 tape:w.tape=W.tape
 output:w.output=W.output
 size:W.heap.size≤w.heap.size
 block: ∀k,k<W.heap.size→(∀j,¬X k j)→w.heap[k]? =W.heap[k]?
 cell: ∀b j,b<W.heap.size→ ¬X b j→w.cell? ⟨b,j,none⟩=W.cell? ⟨b,j,none⟩∧w.frozen? ⟨b,j,none⟩=W.frozen? ⟨b,j,none⟩
theorem Keep.refl (X:Set2) (W:World):Keep X W W:=⟨rfl,rfl,rfl,Nat.le_refl _,fun _ _ _=>rfl,fun _ _ _ _=>⟨rfl,rfl⟩⟩
theorem Keep.alloc {X:Set2} {W w:World} (h:Keep X W w) (o:Obj):Keep X W (w.alloc o) where
 os:=h.os
 tape:=h.tape
 output:=h.output
 size:=by rw [World.size_alloc];exact Nat.le_succ_of_le h.size
 block:=fun k hk hx=>(Go.RowKit.Below.heap_alloc w o k (Nat.lt_of_lt_of_le hk h.size)).trans (h.block k hk hx)
 cell:=fun b j hb hx=>⟨(cell_alloc_old (Nat.lt_of_lt_of_le hb h.size)).trans (h.cell b j hb hx).1,(frozen_alloc_old (Nat.lt_of_lt_of_le hb h.size)).trans (h.cell b j hb hx).2⟩
theorem Keep.drew {X:Set2} {W w:World} (h:Keep X W w):Keep X W { w with drawn:=w.drawn+1 }:=⟨h.os,h.tape,h.output,h.size,h.block,h.cell⟩
theorem Keep.wrote {X:Set2} {W w w':World} {b base:Nat} {vs:List Value} (h:Keep X W w) (k:Wrote w w' b base vs) (hx: ∀j,base≤j→j<base+vs.length→X b j∨W.heap.size≤b):Keep X W w' where
 os:=k.os.trans h.os
 tape:=k.tape.trans h.tape
 output:=k.output.trans h.output
 size:=by rw [k.size];exact h.size
 block:=fun i hi hxi=>by
  by_cases e:i=b
  ·subst e
   cases vs with
   |nil=>exact (k.block i (.inr rfl)).trans (h.block i hi hxi)
   |cons v vs=>
    rcases hx base (Nat.le_refl _) (by simp) with h'|h'
    ·exact absurd h' (hxi _)
    ·omega
  ·exact (k.block i (.inl e)).trans (h.block i hi hxi)
 cell:=fun b' j hb hxb=>by
  refine ⟨?_,(k.fro b' j).trans (h.cell b' j hb hxb).2⟩
  rw [k.out b' j (fun ⟨e1,e2,e3⟩=> ?_)]
  ·exact (h.cell b' j hb hxb).1
  ·subst e1
   rcases hx j e2 e3 with h'|h'
   ·exact hxb h'
   ·omega
end
end Go.Proofs.Ytggibjbcbicpjaa.Ev
namespace Go.Proofs.Ytggibjbcbicpjaa.Ev
open Go
set_option linter.unusedVariables false
set_option linter.unusedSimpArgs false
section
variable {Ty:Nat→Type} (E:Tb Ty)
def anyOwn:List (AV Ty)→Bool
 |[]=>false
 | .sl true _ _ :: _=>true
 |_ :: l=>anyOwn l
def setCells (m:Bool) (t:Nat) (xs:List (Ty t)) (i o:Nat) (cs:List (AV Ty)):Option (List (Ty t)):=
 match (E.cod t).dec m (((E.cod t).enc m (xs.getD i (E.cod t).zero)).take o++cs++((E.cod t).enc m (xs.getD i (E.cod t).zero)).drop (o+cs.length)) with
 |some x=>some (xs.set i x)
 |none=>none
abbrev EffR (Ty:Nat→Type):=AV Ty×Heap Ty×List (Nat×Nat)
def allocT (m:Bool) (hp:Heap Ty) (t tc:Nat):T (EffR Ty):=match E.ti t,E.has t with
 |some _,true=>match Nat.beq t tc with
  |true=> .ret (.ptr hp.length [] 0 0,hp++[some ⟨t,m,[(E.cod t).zero]⟩],[])
  |false=>match (E.cod tc).dec m ((E.cod t).enc m (E.cod t).zero) with
   |some x=> .ret (.ptr hp.length [] 0 0,hp++[some ⟨tc,m,[x]⟩],[])
   |none=> .fail
 |_,_=> .fail
def boxT (m:Bool) (hp:Heap Ty) (t tc:Nat) (a:AV Ty):T (EffR Ty):=match E.ti t,E.has t with
 |some i,true=>match cellsOfA a with
  |some ds=>match Nat.beq ds.length i.sz with
   |true=>match toCells m hp ((E.cod tc).enc m (E.cod tc).zero) ds with
    |some (cs,hp1,ks)=>match (E.cod tc).dec m cs with
     |some x=> .ret (.ptr hp1.length [] 0 0,hp1++[some ⟨tc,m,[x]⟩],ks)
     |none=> .fail
    |none=> .fail
   |false=> .fail
  |none=> .fail
 |_,_=> .fail
def own1:AV Ty→AV Ty
 | .sl false t ys=> .sl true t ys
 |a=>a
def oldsF (t:Nat) (l:List (AV Ty)):List (AV Ty):=match Nat.ble 1000 t with
 |true=>l.map own1
 |false=>l
def storeT (hp:Heap Ty) (i:TI) (addr a:AV Ty):T (EffR Ty):=match addr with
 | .ptr r p k o=>match root hp r with
  |some R=>match nav E R.m R.t R.xs p with
   |some row=>match cellsOfA a with
    |some ds=>match Nat.beq ds.length i.sz && Nat.ble (o+ds.length) (szOf E row.t) with
     |true=>match toCells R.m hp (oldsF row.t (((E.cod row.t).enc R.m (row.xs.getD k (E.cod row.t).zero)).drop o)) ds with
      |some (cs,hp1,ks)=>match root hp1 r with
       |some _=>match upd E R.m R.t R.xs p (fun t xs=>setCells E R.m t xs k o cs) with
        |some xs'=> .ret (.dead,hp1.set r (some ⟨R.t,R.m,xs'⟩),match anyOwn cs || anyOwn ((((E.cod row.t).enc R.m (row.xs.getD k (E.cod row.t).zero)).drop o).take cs.length) with
         |true=>(r,p.length+1) :: ks
         |false=>ks)
        |none=> .fail
       |none=> .fail
      |none=> .fail
     |false=> .fail
    |none=> .fail
   |none=> .fail
  |none=> .fail
 |_=> .fail
variable {E}
variable {X:Set2} {W0:World} {F F':Set2} {w w':World} {hp hp':Heap Ty} {vals vals':Nat→Value} {sets sets':Nat→Set2} {P:Program} {ρ:Operand→Value}
variable (E) in
structure Inv (X:Set2) (W0:World) (F:Set2) (w:World) (hp:Heap Ty) (vals:Nat→Value) (sets:Nat→Set2):Prop where
 H:HRel E F w hp vals sets
 fb: ∀b j,F b j→b<w.heap.size
 lim: ∀r R b j,root hp r=some R→sets r b j→X b j∨W0.heap.size≤b
 keep:Keep X W0 w
theorem Inv.lt (I:Inv E X W0 F w hp vals sets) {r:Nat} {R:Root Ty} (h:root hp r=some R) {b j:Nat} (hs:sets r b j):b<w.heap.size:=by
 obtain ⟨⟨u,hu⟩,_⟩:=(I.H.own r R h).free b j hs
 exact cell_lt hu
theorem survive {ks:List (Nat×Nat)} (hF: ∀b j,F b j→F' b j∧w'.cell? ⟨b,j,none⟩=w.cell? ⟨b,j,none⟩)
  (hr: ∀r R p,root hp r=some R→hit ks r p=false→ ∃R',root hp' r=some R'∧ ∀u row,Loc E w R.m (vals r) R.t R.xs p u row→ ∃xs',Loc E w' R'.m (vals' r) R'.t R'.xs p u ⟨row.t,xs'⟩∧xs'.length=row.xs.length)
  {v:Value} {a:AV Ty} (h:VRep E F w hp vals v a):VRep E F' w' hp' vals' v (killA ks a):=by
 refine VRep.kill hF (fun v a h=>h.stable hF) (fun v r p vw f hh h=> ?_) (fun v r p i o hh h=> ?_) h
 ·obtain ⟨R,u,row,h1,h2,h3⟩:=h.ref'
  obtain ⟨R',h4,h5⟩:=hr r R p h1 hh
  obtain ⟨xs',h6,h8⟩:=h5 u row h2
  exact .ref r p vw f v R' u ⟨row.t,xs'⟩ h4 h6 (by rw [h8];exact h3)
 ·obtain ⟨R,b,off,c,row,h1,h2,h3,rfl⟩:=h.ptr'
  obtain ⟨R',h4,h5⟩:=hr r R p h1 hh
  obtain ⟨xs',h6,h8⟩:=h5 _ row h2
  exact .ptr r p i o R' b off c ⟨row.t,xs'⟩ h4 (by rw [h8];exact h6) (by rw [h8];exact h3)
theorem survive_root (G:Good E) (H:HRel E F w hp vals sets) {r:Nat} {R:Root Ty} {p:Path} (h:root hp r=some R) (h':root hp' r=some R) (hv:vals' r=vals r) (hs: ∀b j,sets r b j→w'.cell? ⟨b,j,none⟩=w.cell? ⟨b,j,none⟩):
  ∃R',root hp' r=some R'∧ ∀u row,Loc E w R.m (vals r) R.t R.xs p u row→ ∃xs',Loc E w' R'.m (vals' r) R'.t R'.xs p u ⟨row.t,xs'⟩∧xs'.length=row.xs.length:=
 ⟨R,h',fun u row hl=>⟨row.xs,by rw [hv];exact hl.stable (H.own r R h) G hs,rfl⟩⟩
theorem root_push {hp:Heap Ty} {r:Nat} {x:Root Ty}:root (hp++[some x]) r=if r=hp.length then some x else root hp r:=by
 unfold root
 by_cases h:r<hp.length
 ·rw [List.getElem?_append_left h,if_neg (by omega)]
 ·rw [List.getElem?_append_right (by omega)]
  by_cases e:r=hp.length
  ·subst e;simp
  ·rw [if_neg e,List.getElem?_eq_none (by simp;omega),List.getElem?_eq_none (by omega)]
theorem push_ok (G:Good E) (I:Inv E X W0 F w hp vals sets) {F1:Set2} {hp1:Heap Ty} {ks:List (Nat×Nat)} (L:Less F F1 sets hp hp1 ks) (H1:HRel E F1 w hp1 vals sets) {o:Obj} {R:Root Ty} {v:Value} {S:Set2}
  (hO:Own E F1 (w.alloc o) R.m v R.t R.xs S) (hS: ∀b j,S b j→b=w.heap.size∨ ∃r R,root hp r=some R∧root hp1 r=none∧sets r b j):
  Inv E X W0 F1 (w.alloc o) (hp1++[some R]) (fun r=>if r=hp1.length then v else vals r) (fun r=>if r=hp1.length then S else sets r)∧
  ∀u a,VRep E F w hp vals u a→VRep E F1 (w.alloc o) (hp1++[some R]) (fun r=>if r=hp1.length then v else vals r) u (killA ks a):=by
 have F1b: ∀b j,F1 b j→b<w.heap.size:=by
  intro b j h
  rcases L.fro b j h with h|⟨r,R',h1,_,h2⟩
  ·exact I.fb _ _ h
  ·exact I.lt h1 h2
 have slt: ∀r R' b j,root hp1 r=some R'→sets r b j→b<w.heap.size:=fun r R' b j h1 h2=>I.lt (L.sub _ _ h1) h2
 refine ⟨⟨⟨fun r R' h=> ?_,fun r r' R1 R2 h1 h2 b j s1 s2=> ?_⟩,fun b j h=> ?_,fun r R' b j h s=> ?_,I.keep.alloc o⟩,fun u a h=> ?_⟩
 ·rw [root_push] at h
  split at h
  ·rename_i e
   subst e
   cases h
   simpa using hO
  ·rename_i e
   simp only [if_neg e]
   refine (H1.own r R' h).stable G (fun b j h=>⟨h,cell_alloc_old (F1b _ _ h)⟩) (fun b j s=>⟨cell_alloc_old (slt _ _ _ _ h s),frozen_alloc_old (slt _ _ _ _ h s)⟩) (fun b j _ h=>h)
 ·rw [root_push] at h1 h2
  have sep: ∀r R',root hp1 r=some R'→ ∀b j,S b j→sets r b j→False:=by
   intro r R' h b j s1 s2
   rcases hS b j s1 with h'|⟨r',R'',q1,q2,q3⟩
   ·have:=slt _ _ _ _ h s2;omega
   ·have:=I.H.dj _ _ _ _ q1 (L.sub _ _ h) b j q3 s2
    subst this
    rw [q2] at h;cases h
  by_cases e1:r=hp1.length<;>by_cases e2:r'=hp1.length
  ·rw [e1,e2]
  ·simp only [if_pos e1] at s1;simp only [if_neg e2] at s2 h2;exact (sep _ _ h2 _ _ s1 s2).elim
  ·simp only [if_neg e1] at s1 h1;simp only [if_pos e2] at s2;exact (sep _ _ h1 _ _ s2 s1).elim
  ·simp only [if_neg e1] at s1 h1;simp only [if_neg e2] at s2 h2;exact H1.dj _ _ _ _ h1 h2 b j s1 s2
 ·rw [World.size_alloc];have:=F1b _ _ h;omega
 ·rw [root_push] at h
  by_cases e:r=hp1.length
  ·simp only [if_pos e] at s
   rcases hS b j s with h'|⟨r',R'',q1,q2,q3⟩
   ·right;have:=I.keep.size;omega
   ·exact I.lim _ _ _ _ q1 q3
  ·simp only [if_neg e] at s h
   exact I.lim _ _ _ _ (L.sub _ _ h) s
 ·refine survive (fun b j h=>⟨L.inc _ _ h,cell_alloc_old (I.fb _ _ h)⟩) (fun r R' p h1 h2=> ?_) h
  have hlt:=root_lt h1
  have hne:r≠hp1.length:=by rw [L.len];omega
  rcases L.out _ _ h1 with h3|⟨_,h3⟩
  ·exact survive_root (hp':=hp1++[some R]) (vals':=fun r=>if r=hp1.length then v else vals r) G I.H h1 (by rw [root_push,if_neg hne];exact h3) (if_neg hne) (fun b j s=>cell_alloc_old (I.lt h1 s))
  ·exact absurd (hit_mem h2 h3) (by omega)
def Grow (X:Set2) (W0:World) (F F':Set2):Prop:=(∀b j,F b j→F' b j)∧ ∀b j,F' b j→F b j∨X b j∨W0.heap.size≤b
theorem Grow.refl (X:Set2) (W0:World) (F:Set2):Grow X W0 F F:=⟨fun _ _ h=>h,fun _ _ h=> .inl h⟩
theorem Grow.trans {F2:Set2} (h:Grow X W0 F F') (k:Grow X W0 F' F2):Grow X W0 F F2:=⟨fun b j e=>k.1 _ _ (h.1 _ _ e),fun b j e=>(k.2 _ _ e).elim (h.2 _ _) .inr⟩
theorem Less.grow (I:Inv E X W0 F w hp vals sets) {hp1:Heap Ty} {ks:List (Nat×Nat)} (L:Less F F' sets hp hp1 ks):Grow X W0 F F':=
 ⟨L.inc,fun b j h=>by
  rcases L.fro b j h with h|⟨r,R,h1,_,h2⟩
  ·exact .inl h
  ·exact .inr (I.lim _ _ _ _ h1 h2)⟩
variable (E) in
def OvOk (X:Set2) (W0:World) (F:Set2) (w:World) (hp:Heap Ty) (vals:Nat→Value) (sets:Nat→Set2) (v:Value) (r:Nat) (p:Path) (t:Nat) (xs:List (Ty t)):Prop:=
 ∃(R:Root Ty) (u:Value) (ys:List (Ty t)) (S' S1:Set2),root hp r=some R∧Loc E w R.m (vals r) R.t R.xs p u ⟨t,ys⟩∧Own E F w R.m u t ys S'∧(∀b j,S' b j→sets r b j)∧Own E F w R.m v t xs S1∧
  ∀b j,S1 b j→S' b j∨((∀q Q,root hp q=some Q→ ¬sets q b j)∧(X b j∨W0.heap.size≤b))
def EffOk (E:Tb Ty) (P:Program) (ρ:Operand→Value) (o:Oper) (X:Set2) (W0:World) (F:Set2) (w:World) (hp:Heap Ty) (vals:Nat→Value) (r:EffR Ty):Prop:=
 ∃nx v w' F' vals' sets',(execOp ρ o).run P w= .ok nx w'∧(nx= .value v∨(nx= .skip∧v=undef))∧Inv E X W0 F' w' r.2.1 vals' sets'∧VRep E F' w' r.2.1 vals' v r.1∧
  (∀u a,VRep E F w hp vals u a→VRep E F' w' r.2.1 vals' u (killA r.2.2 a))∧(∀j,j<hp.length→(j,0)∈r.2.2∨vals' j=vals j)∧Grow X W0 F F'∧ ∀r0 p t xs,r.1= .ext r0 p t xs→OvOk E X W0 F' w' r.2.1 vals' sets' v r0 p t xs
theorem ptr_new {F:Set2} {w:World} {vals:Nat→Value} {t:Nat} {m:Bool} {x:Ty t} {b:Nat} {hp':Heap Ty} {n:Nat} (h1:root hp' n=some ⟨t,m,[x]⟩) (h2:vals n= .slice (some ⟨b,0,none⟩) 1 1):
  VRep E F w hp' vals (.pointer (some ⟨b,0,none⟩)) (.ptr n [] 0 0):=by
 have:=VRep.ptr (E:=E) (F:=F) (w:=w) (hp:=hp') (vals:=vals) n [] 0 0 ⟨t,m,[x]⟩ b 0 1 ⟨t,[x]⟩ h1 ⟨h2.symm,rfl⟩ (by simp)
 simpa using this
theorem cont_one (G:Good E) {m:Bool} {t:Nat} {x:Ty t} {vs:List Value} {cs:List (AV Ty)} {Bn:Nat→Set2} (h:Fresh E F w m vs cs Bn) (hx:(E.cod t).enc m x=cs):Cont E F w m t [x] vs (fun i o=>if i=0 then Bn o else fun _ _=>False):=by
 have hl:vs.length=szOf E t:=by rw [h.len,←hx,G.len]
 refine ⟨by simp [hl],h.one,fun i y o a v e1 e2 e3 e4=> ?_,fun i y o t' ys v e1 e2 e3=> ?_,fun i o i' o' b j e1 e2=> ?_,fun i o b j e=> ?_⟩
 ·cases i with
  |zero=>
   cases e1
   rw [hx] at e2
   exact h.rep o v a (by simpa using e3) e2 e4
  |succ i=>simp at e1
 ·cases i with
  |zero=>
   cases e1
   rw [hx] at e2
   exact h.own o v t' ys (by simpa using e3) e2
  |succ i=>simp at e1
 ·by_cases h0:i=0
  ·by_cases h1:i'=0
   ·simp only [if_pos h0] at e1
    simp only [if_pos h1] at e2
    exact ⟨by omega,h.dj _ _ _ _ e1 e2⟩
   ·simp only [if_neg h1] at e2
  ·simp only [if_neg h0] at e1
 ·by_cases h0:i=0
  ·simp only [if_pos h0] at e
   obtain ⟨t',ys,h'⟩:=h.rg _ _ _ e
   subst h0
   exact ⟨x,t',ys,rfl,by rw [hx];exact h'⟩
  ·simp only [if_neg h0] at e
theorem cont_zero (K:TbOk E P) (G:Good E) {t:Nat} {i:TI} (hi:E.ti t=some i) (hh:E.has t=true) (m:Bool) (F:Set2) (w:World): ∃j z,P.info? t=some j∧j.zero=some z∧z.cells.size=szOf E t∧Cont E F w m t [(E.cod t).zero] z.cells.toList (fun _ _ _ _=>False):=by
 obtain ⟨h1,j,z,h2,h3,h4,h5⟩:=K.zero t i hi hh
 refine ⟨j,z,h2,h3,by rw [h1];exact h4,?_⟩
 have key: ∀(o:Nat) a v,((E.cod t).enc m (E.cod t).zero)[o]? =some a→z.cells.toList[o]? =some v→(a= .v v∧oneC v=true)∨ ∃q t',a= .sl q t' []∧v= .slice none 0 0:=by
  intro o a v e1 e2
  obtain ⟨v',e3,h⟩:=h5 m o a e1
  have:v=v':=by simp only [Array.getElem?_toList] at e2;exact Option.some.inj (e2.symm.trans e3)
  subst this
  exact h
 refine ⟨by simp [h4,h1],fun v hv=> ?_,fun i x o a v e1 e2 e3 e4=> ?_,fun i x o t' ys v e1 e2 e3=> ?_,fun _ _ _ _ _ _ h=>h.elim,fun _ _ _ _ h=>h.elim⟩
 ·obtain ⟨o,ho⟩:=List.getElem?_of_mem hv
  have hlt:o<((E.cod t).enc m (E.cod t).zero).length:=by rw [G.len,h1,←h4];simpa using get_lt ho
  rcases key o _ v (List.getElem?_eq_getElem hlt) ho with ⟨_,h⟩|⟨q,t',_,h⟩
  ·exact h
  ·rw [h];rfl
 ·cases i with
  |zero=>
   cases e1
   rcases key o a v e2 (by simpa using e3) with ⟨rfl,_⟩|⟨q,t',rfl,rfl⟩
   ·exact .v _
   ·cases q
    ·exact .nil _ _ _
    ·exact absurd trivial e4
  |succ i=>simp at e1
 ·cases i with
  |zero=>
   cases e1
   rcases key o _ v e2 (by simpa using e3) with ⟨h,_⟩|⟨q,t'',h,rfl⟩
   ·cases h
   ·cases h
    exact .nil _ _ _ (fun _ _ h=>h)
  |succ i=>simp at e1
theorem Cont.turn (G:Good E) {m:Bool} {t tc:Nat} {x:Ty t} {y:Ty tc} {vs:List Value} {B:Nat→Nat→Set2} (he:(E.cod tc).enc m y=(E.cod t).enc m x) (h:Cont E F w m t [x] vs B):Cont E F w m tc [y] vs B:=by
 have hsz:szOf E tc=szOf E t:=by rw [←G.len tc m y,←G.len t m x,he]
 have one: ∀(i:Nat) x',[y][i]? =some x'→i=0∧x'=y:=fun i x' e=>by
  cases i with
  |zero=>cases e;exact ⟨rfl,rfl⟩
  |succ i=>simp at e
 refine ⟨by rw [h.len,hsz];rfl,h.one,fun i x' o a v e1 e2 e3 e4=> ?_,fun i x' o t' ys v e1 e2 e3=> ?_,h.dj,fun i o b j e=> ?_⟩
 ·obtain ⟨rfl,rfl⟩:=one i x' e1
  exact h.rep 0 x o a v rfl (he▸e2) (by simpa using e3) e4
 ·obtain ⟨rfl,rfl⟩:=one i x' e1
  exact h.own 0 x o t' ys v rfl (he▸e2) (by simpa using e3)
 ·obtain ⟨x',t',ys,e1,e2⟩:=h.rg i o b j e
  have:i=0∧x'=x:=by
   cases i with
   |zero=>cases e1;exact ⟨rfl,rfl⟩
   |succ i=>simp at e1
  obtain ⟨rfl,rfl⟩:=this
  exact ⟨y,t',ys,rfl,he▸e2⟩
theorem alloc_eff (K:TbOk E P) (G:Good E) (I:Inv E X W0 F w hp vals sets) {m:Bool} {t tc:Nat} {r:EffR Ty} (h:(allocT E m hp t tc).val=some r) (o:Oper) (ho:o.op= .alloc t):EffOk E P ρ o X W0 F w hp vals r:=by
 have key: ∀(i:TI) (tc:Nat) (x:Ty tc),E.ti t=some i→E.has t=true→(E.cod tc).enc m x=(E.cod t).enc m (E.cod t).zero→EffOk E P ρ o X W0 F w hp vals (.ptr hp.length [] 0 0,hp++[some ⟨tc,m,[x]⟩],[]):=by
  intro i tc x hi hh he
  obtain ⟨j,z,h2,h3,h4,hC0⟩:=cont_zero K G hi hh m F w
  have hC:=hC0.turn G he
  have hsz:szOf E tc=szOf E t:=by rw [←G.len tc m x,←G.len t m (E.cod t).zero,he]
  have hO:=alloc_own (T:=t) (c:=1) (cells:=z.cells) G hC (by rw [h4,Nat.one_mul,hsz]) (by simp) (fun k v e=>by simpa using e) I.fb
  obtain ⟨I',hs⟩:=push_ok G I (Less.refl F sets hp) I.H (R:=⟨tc,m,[x]⟩) hO (fun b j h=>by
   rcases h with h|⟨_,_,h⟩
   ·exact .inl h.1
   ·exact h.elim)
  refine ⟨_,_,_,F,_,_,?_, .inl rfl,I',ptr_new (t:=tc) (m:=m) (x:=x) (b:=w.heap.size) (by rw [root_push,if_pos rfl]) (if_pos rfl),hs,fun j hj=> .inr (if_neg (Nat.ne_of_lt hj)),Grow.refl _ _ _,fun _ _ _ _ e=>by cases e⟩
  refine okB (s:=Instr.alloc t true (.tuple #[])) (by unfold execOp;rw [ho]) ?_
  simp [Instr.alloc,zeroValue,typeInfo,program,Bind.bind,Sem.bind,Sem.run,Pure.pure,h2,h3,newVar,newRow,newObj]
 unfold allocT at h
 split at h
 ·rename_i i hi hh
  split at h
  ·cases h
   exact key _ _ _ hi hh rfl
  ·split at h
   ·rename_i x hx
    cases h
    exact key _ _ _ hi hh (G.dec _ _ _ _ hx)
   ·cases h
 ·cases h
theorem box_eff (K:TbOk E P) (G:Good E) (I:Inv E X W0 F w hp vals sets) {m:Bool} {t tc:Nat} {x:Operand} {a:AV Ty} (hx:VRep E F w hp vals (ρ x) a) {r:EffR Ty} (h:(boxT E m hp t tc a).val=some r) (o:Oper) (ho:o.op= .box t x):EffOk E P ρ o X W0 F w hp vals r:=by
 unfold boxT at h
 split at h
 ·rename_i i hi hh
  split at h
  ·rename_i ds hd
   split at h
   ·rename_i hz
    split at h
    ·rename_i cs hp1 ks hc
     split at h
     ·rename_i x' hx'
      cases h
      have hds:=cellsOf_ok G I.H hx hd
      obtain ⟨F1,Bn,H1,L,f,l,bn⟩:=toCells_ok G ds _ F hp hp1 ks cs _ I.H (fun _ _ h=>h) (fun _ _ h=>h) hds hc
      have F1b: ∀b j,F1 b j→b<w.heap.size:=by
       intro b j h
       rcases L.fro b j h with h|⟨r,R',h1,_,h2⟩
       ·exact I.fb _ _ h
       ·exact I.lt h1 h2
      have henc:=G.dec _ _ _ _ hx'
      have hC:=cont_one G f henc
      have hsz:(ρ x).cells.size=1*szOf E tc:=by
       have:=f.len
       rw [←henc,G.len] at this
       simpa using this
      have hO:=alloc_own (T:=t) (c:=1) (cells:=(ρ x).cells) G hC hsz (by simp) (fun k v e=>by simpa using e) F1b
      obtain ⟨I',hs⟩:=push_ok G I L H1 (R:=⟨tc,m,[x']⟩) hO (fun b j h=>by
       rcases h with h|⟨i,q,h⟩
       ·exact .inl h.1
       ·by_cases h0:i=0
        ·simp only [if_pos h0] at h
         exact .inr (bn _ _ _ h).2
        ·simp only [if_neg h0] at h)
      refine ⟨_,_,_,F1,_,_,?_, .inl rfl,I',ptr_new (t:=tc) (m:=m) (x:=x') (b:=w.heap.size) (by rw [root_push,if_pos rfl]) (if_pos rfl),hs,fun j hj=> .inr (if_neg (by rw [L.len];exact Nat.ne_of_lt hj)),L.grow I,fun _ _ _ _ e=>by cases e⟩
      refine okB (s:=Instr.box t (ρ x)) (by unfold execOp;rw [ho]) ?_
      simp [Instr.box,Bind.bind,Sem.bind,Sem.run,Pure.pure,newVar,newRow,newObj]
     ·cases h
    ·cases h
   ·cases h
  ·cases h
 ·cases h
theorem setCells_inv (G:Good E) {m:Bool} {t:Nat} {xs xs':List (Ty t)} {i o:Nat} {x:Ty t} {cs:List (AV Ty)} (h1:xs[i]? =some x) (h:setCells E m t xs i o cs=some xs'):
  ∃x',xs'=xs.set i x'∧(E.cod t).enc m x'=((E.cod t).enc m x).take o++cs++((E.cod t).enc m x).drop (o+cs.length):=by
 unfold setCells at h
 rw [getD_of h1] at h
 split at h
 ·rename_i x' e
  exact ⟨x',(Option.some.inj h).symm,G.dec _ _ _ _ e⟩
 ·cases h
theorem anyOwn_false {l:List (AV Ty)} (h:anyOwn l=false): ∀(k:Nat) t ys,l[k]? ≠some (AV.sl true t ys):=by
 induction l with
 |nil=>intro k t ys e;simp at e
 |cons a l ih=>
  intro k t ys e
  cases k with
  |zero=>
   simp at e
   subst e
   cases h
  |succ k=>
   refine ih ?_ k t ys (by simpa using e)
   cases a<;>first|exact h|skip
   rename_i q _ _
   cases q
   ·exact h
   ·cases h
theorem Loc.cells (G:Good E) {m:Bool}: ∀ {p:Path} {v:Value} {t:Nat} {xs:List (Ty t)} {row:Row Ty} {S:Set2} {b off c:Nat},Own E F w m v t xs S→Loc E w m v t xs p (.slice (some ⟨b,off,none⟩) row.xs.length c) row→ ∀j,j<c*szOf E row.t→S b (off+j)
 |[],v,t,xs,row,S,b,off,c,ho,⟨h1,h2⟩,j,hj=>by
  subst h2
  rcases ho.inv with ⟨⟨A,e⟩,_,_⟩|⟨b0,off0,c0,g,B,hv0,R⟩
  ·rw [e] at h1
   injection h1 with _ _ h1
   subst h1
   simp at hj
  ·rw [hv0] at h1
   injection h1 with e1 e2 e3
   injection e1 with e1
   injection e1 with e1 e4
   subst e1 e4 e3
   exact R.mem hj
 |(i,o) :: p,v,t,xs,row,S,b,off,c,ho,⟨b1,off1,c1,x,t',ys,v',h1,h2,h3,h4,h5⟩,j,hj=>by
  rcases ho.inv with ⟨_,hnil,_⟩|⟨b0,off0,c0,g,B,hv0,R⟩
  ·rw [hnil] at h2;simp at h2
  ·rw [h1] at hv0
   injection hv0 with e1 e2 e3
   injection e1 with e1
   injection e1 with e1 e4
   subst e1 e4 e3
   have hg:g i o=v':=Option.some.inj ((R.cell i x o _ h2 h3).symm.trans h4)
   have hsub:=R.own i x o t' ys h2 h3
   rw [hg] at hsub
   exact R.sub (Loc.cells G hsub h5 j hj)
theorem Loc.upd (G:Good E) {m:Bool} {f:(t:Nat)→List (Ty t)→Option (List (Ty t))} {C:Set2}: ∀(p:Path) {v:Value} {t:Nat} {xs:List (Ty t)} {u:Value} {row:Row Ty} {S:Set2} {xs':List (Ty t)} {ys':List (Ty row.t)},
  Own E F w m v t xs S→Loc E w m v t xs p u row→(∀b j,C b j→ ∃off c,u= .slice (some ⟨b,off,none⟩) row.xs.length c∧off≤j∧j<off+c*szOf E row.t)→
  (∀b j,S b j→ ¬C b j→w'.cell? ⟨b,j,none⟩=w.cell? ⟨b,j,none⟩)→Ev.upd E m t xs p f=some xs'→f row.t row.xs=some ys'→ys'.length=row.xs.length→
  ∀(q:Path) {u2:Value} {row2:Row Ty},Loc E w m v t xs q u2 row2→
   (q.length≤p.length∨ ∀(i2 o2:Nat) x2 t2 (zs:List (Ty t2)),row.xs[i2]? =some x2→((E.cod row.t).enc m x2)[o2]? =some (AV.sl true t2 zs)→
    ∃x3,ys'[i2]? =some x3∧((E.cod row.t).enc m x3)[o2]? =some (AV.sl true t2 zs)∧ ∀b off c,u= .slice (some ⟨b,off,none⟩) row.xs.length c→ ¬C b (off+(i2*szOf E row.t+o2)))→
   ∃zs',Loc E w' m v t xs' q u2 ⟨row2.t,zs'⟩∧zs'.length=row2.xs.length
 |[],v,t,xs,u,row,S,xs',ys',ho,⟨hu,hr⟩,hC,hA,hup,hf,hl,q,u2,row2,hq,hend=>by
  subst hu hr
  have e:ys'=xs':=Option.some.inj (hf.symm.trans hup)
  subst e
  cases q with
  |nil=>
   obtain ⟨rfl,rfl⟩:=hq
   exact ⟨ys',⟨rfl,rfl⟩,hl⟩
  |cons s q'=>
   obtain ⟨i2,o2⟩:=s
   obtain ⟨b,off,c,x2,t2,zs,v2,h1,h2,h3,h4,h5⟩:=hq
   rcases hend with h|hend
   ·simp at h
   ·obtain ⟨x3,k1,k2,k3⟩:=hend i2 o2 x2 t2 zs h2 h3
    rcases ho.inv with ⟨_,hnil,_⟩|⟨b0,off0,c0,g,B,hv0,R⟩
    ·rw [hnil] at h2;simp at h2
    ·rw [h1] at hv0
     injection hv0 with e1 e2 e3
     injection e1 with e1
     injection e1 with e1 e4
     subst e1 e4 e3
     have hg:g i2 o2=v2:=Option.some.inj ((R.cell i2 x2 o2 _ h2 h3).symm.trans h4)
     have hsub:=R.own i2 x2 o2 t2 zs h2 h3
     rw [hg] at hsub
     refine ⟨row2.xs,⟨b,off,c,x3,t2,zs,v2,by rw [h1,hl],k1,k2,?_,?_⟩,rfl⟩
     ·exact (hA _ _ (R.mem (G.lt R.le h2 h3)) (k3 b off c h1)).trans h4
     ·refine h5.stable hsub G (fun b' j' h=>hA _ _ (R.sub h) (fun hc=> ?_))
      obtain ⟨off',c',e1,e2,e3⟩:=hC _ _ hc
      rw [h1] at e1
      injection e1 with e1 _ e4
      injection e1 with e1
      injection e1 with e1 e5
      subst e1 e5 e4
      have:=R.dr i2 o2 (j'-off) (by simp only at e3;omega)
      rw [show off+(j'-off)=j' by omega] at this
      exact this h
 |(i,o) :: p,v,t,xs,u,row,S,xs',ys',ho,⟨b,off,c,x,t',ys,v',h1,h2,h3,h4,h5⟩,hC,hA,hup,hf,hl,q,u2,row2,hq,hend=>by
  unfold Ev.upd at hup
  rw [cellOf_of h2 h3] at hup
  simp only at hup
  split at hup
  ·rename_i ys1 e1
   obtain ⟨x',hxs,hx'⟩:=setCell_inv G h2 hup
   subst hxs
   have hi:=get_lt h2
   have hoo:=get_lt h3
   cases q with
   |nil=>
    obtain ⟨rfl,rfl⟩:=hq
    exact ⟨_,⟨rfl,rfl⟩,List.length_set⟩
   |cons s q'=>
    obtain ⟨i2,o2⟩:=s
    obtain ⟨b2,off2,c2,x2,t2,zs,v2,g1,g2,g3,g4,g5⟩:=hq
    rcases ho.inv with ⟨_,hnil,_⟩|⟨b0,off0,c0,g,B,hv0,R⟩
    ·rw [hnil] at h2;simp at h2
    ·rw [h1] at hv0 g1
     injection hv0 with z1 z2 z3
     injection z1 with z1
     injection z1 with z1 z4
     subst z1 z4 z3
     injection g1 with z1 z2 z3
     injection z1 with z1
     injection z1 with z1 z4
     subst z1 z4 z3
     have hg:g i o=v':=Option.some.inj ((R.cell i x o _ h2 h3).symm.trans h4)
     have hsub:=R.own i x o t' ys h2 h3
     rw [hg] at hsub
     have hCB: ∀b' j',C b' j'→B i o b' j':=by
      intro b' j' hc
      obtain ⟨off',c',e1,e2,e3⟩:=hC _ _ hc
      rw [e1] at h5
      have:=Loc.cells G hsub h5 (j'-off') (by omega)
      rwa [show off'+(j'-off')=j' by omega] at this
     have hrowC: ∀j,j<c*szOf E t→ ¬C b (off+j):=fun j hj hc=>R.dr i o j hj (hCB _ _ hc)
     by_cases e:i2=i∧o2=o
     ·obtain ⟨rfl,rfl⟩:=e
      rw [h2] at g2
      cases g2
      rw [h3] at g3
      cases g3
      rw [h4] at g4
      cases g4
      obtain ⟨zs',k1,k2⟩:=Loc.upd G p hsub h5 hC (fun b' j' hs hc=>hA _ _ (R.sub hs) hc) e1 hf hl q' g5 (by
       rcases hend with h|h
       ·exact .inl (by simpa using h)
       ·exact .inr h)
      refine ⟨zs',⟨b,off,c,x',t',ys1,v',by rw [h1,List.length_set],?_,?_,?_,k1⟩,k2⟩
      ·rw [List.getElem?_set,if_pos rfl,if_pos hi]
      ·rw [hx',List.getElem?_set,if_pos rfl,if_pos hoo]
      ·have hj:=G.lt R.le h2 h3
       exact (hA _ _ (R.mem hj) (hrowC _ hj)).trans h4
     ·have hg2:g i2 o2=v2:=Option.some.inj ((R.cell i2 x2 o2 _ g2 g3).symm.trans g4)
      have hsub2:=R.own i2 x2 o2 t2 zs g2 g3
      rw [hg2] at hsub2
      have hst:=g5.stable hsub2 G (fun b' j' h=>hA _ _ (R.sub h) (fun hc=>e (R.dj _ _ _ _ _ _ h (hCB _ _ hc))))
      have hj:=G.lt R.le g2 g3
      have hcell:=(hA _ _ (R.mem hj) (hrowC _ hj)).trans g4
      by_cases ei:i2=i
      ·subst ei
       rw [h2] at g2
       cases g2
       refine ⟨row2.xs,⟨b,off,c,x',t2,zs,v2,by rw [h1,List.length_set],?_,?_,hcell,hst⟩,rfl⟩
       ·rw [List.getElem?_set,if_pos rfl,if_pos hi]
       ·rw [hx',List.getElem?_set,if_neg (fun h=>e ⟨rfl,h.symm⟩)]
        exact g3
      ·refine ⟨row2.xs,⟨b,off,c,x2,t2,zs,v2,by rw [h1,List.length_set],?_,g3,hcell,hst⟩,rfl⟩
       rw [List.getElem?_set,if_neg (fun h=>ei h.symm)]
       exact g2
  ·cases hup
end
end Go.Proofs.Ytggibjbcbicpjaa.Ev
namespace Go.Proofs.Ytggibjbcbicpjaa.Ev
open Go
set_option linter.unusedVariables false
set_option linter.unusedSimpArgs false
section
variable {Ty:Nat→Type} {E:Tb Ty}
variable {X:Set2} {W0:World} {F F':Set2} {w w':World} {hp hp':Heap Ty} {vals vals':Nat→Value} {sets sets':Nat→Set2} {P:Program} {ρ:Operand→Value}
theorem Wrote.agreeF {b base:Nat} {vs:List Value} (h:Wrote w w' b base vs) {Q:Set2} (hq: ∀j,base≤j→j<base+vs.length→ ¬Q b j): ∀b' j,Q b' j→w'.cell? ⟨b',j,none⟩=w.cell? ⟨b',j,none⟩:=
 fun b' j hQ=>h.out b' j (fun ⟨e1,e2,e3⟩=>hq j e2 e3 (e1▸hQ))
theorem set_ok (G:Good E) (I:Inv E X W0 F w hp vals sets) {F1:Set2} {hp1:Heap Ty} {ks:List (Nat×Nat)} (L:Less F F1 sets hp hp1 ks) (H1:HRel E F1 w hp1 vals sets) {r:Nat} {R R':Root Ty} (hr:root hp1 r=some R)
  {b base:Nat} {vs:List Value} (hW:Wrote w w' b base vs) (hin: ∀j,base≤j→j<base+vs.length→sets r b j) {S:Set2} {v:Value} (hO:Own E F1 w' R'.m v R'.t R'.xs S)
  (hS: ∀b j,S b j→sets r b j∨(∃r' R'',root hp r'=some R''∧root hp1 r'=none∧sets r' b j)∨((∀q Q,root hp q=some Q→ ¬sets q b j)∧(X b j∨W0.heap.size≤b))):
  Inv E X W0 F1 w' (hp1.set r (some R')) (fun i=>if i=r then v else vals i) (fun i=>if i=r then S else sets i):=by
 have hlt:=root_lt hr
 have hroot: ∀i,root (hp1.set r (some R')) i=if r=i then some R' else root hp1 i:=by
  intro i
  rw [root_set,if_pos hlt]
 have F1b: ∀b j,F1 b j→b<w.heap.size:=by
  intro b j h
  rcases L.fro b j h with h|⟨r,R',h1,_,h2⟩
  ·exact I.fb _ _ h
  ·exact I.lt h1 h2
 have notF: ∀b j,sets r b j→ ¬F1 b j:=fun b j h=>((H1.own r R hr).free b j h).2.2
 have agF: ∀b' j,F1 b' j→w'.cell? ⟨b',j,none⟩=w.cell? ⟨b',j,none⟩:=hW.agreeF (fun j h1 h2 h=>notF _ _ (hin j h1 h2) h)
 have sep: ∀i Ri,i≠r→root hp1 i=some Ri→ ∀b j,S b j→sets i b j→False:=by
  intro i Ri hne hi b j h1 h2
  rcases hS b j h1 with h|⟨r',R'',q1,q2,q3⟩|⟨hn,_⟩
  ·exact hne (H1.dj _ _ _ _ hi hr b j h2 h)
  ·have:=I.H.dj _ _ _ _ q1 (L.sub _ _ hi) b j q3 h2
   subst this
   rw [q2] at hi;cases hi
  ·exact hn _ _ (L.sub _ _ hi) h2
 refine ⟨⟨fun i Ri h=> ?_,fun i i' Ri Ri' h1 h2 b j s1 s2=> ?_⟩,fun b j h=>by rw [hW.size];exact F1b _ _ h,fun i Ri b j h s=> ?_,I.keep.wrote hW (fun j h1 h2=>I.lim r R b j (L.sub _ _ hr) (hin j h1 h2))⟩
 ·rw [hroot] at h
  by_cases e:i=r
  ·subst e
   rw [if_pos rfl] at h
   cases h
   simpa using hO
  ·rw [if_neg (fun h=>e h.symm)] at h
   simp only [if_neg e]
   refine (H1.own i Ri h).stable G (fun b j h=>⟨h,agF _ _ h⟩) (fun b' j s=>⟨hW.agreeF (Q:=sets i) (fun j h1 h2 h'=>e (H1.dj _ _ _ _ h hr _ _ h' (hin j h1 h2))) _ _ s,hW.fro _ _⟩) (fun b j _ h=>h)
 ·rw [hroot] at h1 h2
  by_cases e1:i=r<;>by_cases e2:i'=r
  ·rw [e1,e2]
  ·simp only [if_pos e1] at s1;simp only [if_neg e2] at s2;rw [if_neg (fun h=>e2 h.symm)] at h2;exact (sep _ _ e2 h2 _ _ s1 s2).elim
  ·simp only [if_neg e1] at s1;simp only [if_pos e2] at s2;rw [if_neg (fun h=>e1 h.symm)] at h1;exact (sep _ _ e1 h1 _ _ s2 s1).elim
  ·simp only [if_neg e1] at s1;simp only [if_neg e2] at s2;rw [if_neg (fun h=>e1 h.symm)] at h1;rw [if_neg (fun h=>e2 h.symm)] at h2;exact H1.dj _ _ _ _ h1 h2 b j s1 s2
 ·rw [hroot] at h
  by_cases e:i=r
  ·simp only [if_pos e] at s
   rcases hS b j s with h'|⟨r',R'',q1,q2,q3⟩|⟨_,hl⟩
   ·exact I.lim r R b j (L.sub _ _ hr) h'
   ·exact I.lim _ _ _ _ q1 q3
   ·exact hl
  ·simp only [if_neg e] at s
   rw [if_neg (fun h=>e h.symm)] at h
   exact I.lim _ _ _ _ (L.sub _ _ h) s
theorem anyOwn_at {l:List (AV Ty)} {k:Nat} {t:Nat} {ys:List (Ty t)} (h:anyOwn l=false):l[k]? ≠some (AV.sl true t ys):=anyOwn_false h k t ys
theorem store_eff (K:TbOk E P) (G:Good E) (I:Inv E X W0 F w hp vals sets) {t:Nat} {i:TI} (hi:E.ti t=some i) {x y:Operand} {addr a:AV Ty} (hx:VRep E F w hp vals (ρ x) addr) (hy:VRep E F w hp vals (ρ y) a) {res:EffR Ty}
  (h:(storeT E hp i addr a).val=some res) (o:Oper) (ho:o.op= .store t x y):EffOk E P ρ o X W0 F w hp vals res:=by
 unfold storeT at h
 split at h
 ·rename_i r p k oo
  split at h
  ·rename_i R hR
   split at h
   ·rename_i row hnav
    split at h
    ·rename_i ds hds
     split at h
     ·rename_i hz
      split at h
      ·rename_i cs hp1 ks hcs
       split at h
       ·rename_i R1 hR1
        split at h
        ·rename_i xs' hupd
         cases h
         rw [Bool.and_eq_true] at hz
         have z1:=Nat.eq_of_beq_eq_true hz.1
         have z2:=Nat.le_of_ble_eq_true hz.2
         obtain ⟨R2,b,off,c,row2,h1,h2,h3,hxv⟩:=hx.ptr'
         rw [hR] at h1
         cases h1
         have:row=row2:=Option.some.inj (hnav.symm.trans h2.nav)
         subst this
         have hC:=cellsOf_ok G I.H hy hds
         obtain ⟨F1,Bn,H1,L,f,l,bn⟩:=toCells_ok G ds _ F hp hp1 ks cs _ I.H (fun _ _ h=>h) (fun _ _ h=>h) hC hcs
         have e1:R1=R:=Option.some.inj ((L.sub _ _ hR1).symm.trans hR) |>.symm▸rfl
         subst e1
         have hOr:=H1.own r R1 hR1
         obtain ⟨S',hrow,hsub,hrep⟩:=focus G p hOr h2
         rcases hrow.inv with ⟨⟨A,e⟩,e2,_⟩|⟨b',off',c',g,B,e,O⟩
         ·rw [e2] at h3;exact absurd h3 (by simp)
         ·injection e with q1 q2 q3
          injection q1 with q1
          injection q1 with q1 q4
          subst q1 q4 q3
          obtain ⟨x0,hx0⟩: ∃x0,row.xs[k]? =some x0:=⟨_,List.getElem?_eq_getElem h3⟩
          have hlen:cs.length=ds.length:=l
          have hbase: ∀kk,kk<cs.length→k*szOf E row.t+(oo+kk)<c*szOf E row.t:=fun kk hk=>lt_cells h3 O.le (by omega)
          have hvl:(ρ y).cells.toList.length=cs.length:=f.len
          obtain ⟨w',hrun,hW⟩:=storeCells_ok (P:=P) (b:=b) (base:=off+(k*szOf E row.t+oo)) (ρ y).cells.toList 0 w (fun kk hk=>by
           have:=O.cap (k*szOf E row.t+oo+kk) (by have:=hbase kk (by omega);omega)
           rw [show off+(k*szOf E row.t+oo)+(0+kk)=off+(k*szOf E row.t+oo+kk) by omega]
           exact ⟨this.1,this.2.1⟩) f.one
          rw [Nat.add_zero] at hW
          have F1b: ∀b j,F1 b j→b<w.heap.size:=by
           intro b j h
           rcases L.fro b j h with h|⟨r,R',h1,_,h2⟩
           ·exact I.fb _ _ h
           ·exact I.lt h1 h2
          have hin: ∀j,off+(k*szOf E row.t+oo)≤j→j<off+(k*szOf E row.t+oo)+(ρ y).cells.toList.length→S' b j:=by
           intro j j1 j2
           rw [hvl] at j2
           have:=hbase (j-off-k*szOf E row.t-oo) (by omega)
           have:=O.mem (j:=j-off) (by omega)
           rwa [show off+(j-off)=j by omega] at this
          have hBnS: ∀kk b' j,Bn kk b' j→ ¬sets r b' j:=by
           intro kk b' j hb hs
           obtain ⟨_,r',R',q1,q2,q3⟩:=bn kk b' j hb
           have:=I.H.dj _ _ _ _ q1 hR b' j q3 hs
           subst this
           rw [hR1] at q2;cases q2
          have hfrow: ∃ys',setCells E R1.m row.t row.xs k oo cs=some ys':=by
           have: ∀(p:Path) (v:Value) (t:Nat) (xs xs':List (Ty t)) (u:Value) (rw_:Row Ty),Loc E w R1.m v t xs p u rw_→upd E R1.m t xs p (fun t xs=>setCells E R1.m t xs k oo cs)=some xs'→ ∃ys',setCells E R1.m rw_.t rw_.xs k oo cs=some ys':=by
            intro p
            induction p with
            |nil=>intro v t xs xs' u rw_ hl hu;obtain ⟨rfl,rfl⟩:=hl;exact ⟨xs',hu⟩
            |cons s p ih=>
             intro v t xs xs' u rw_ hl hu
             obtain ⟨b,off,c,x,t',ys,v',_,g2,g3,_,g5⟩:=hl
             unfold upd at hu
             rw [cellOf_of g2 g3] at hu
             simp only at hu
             split at hu
             ·rename_i ys1 e1;exact ih _ _ _ _ _ _ g5 e1
             ·cases hu
           exact this p _ _ _ _ _ _ h2 hupd
          obtain ⟨ys',hys⟩:=hfrow
          obtain ⟨x1,hxs1,hx1⟩:=setCells_inv G hx0 hys
          subst hxs1
          have hput:=O.put G hx0 f hW (by omega) hx1 F1b (fun kk b' j hb hs=>absurd (hsub _ _ hs) (hBnS kk b' j hb))
          have hown:=hput.toOwn
          rw [List.length_set] at hown
          have agF1: ∀b' j,F1 b' j→w'.cell? ⟨b',j,none⟩=w.cell? ⟨b',j,none⟩:=hW.agreeF (fun j h1 h2 h=>((hrow.free b j (hin j h1 h2)).2.2 h))
          obtain ⟨hO',hlen'⟩:=hrep w' (row.xs.set k x1) _ _ xs' hown List.length_set
           (fun b' j hs=>⟨hW.out _ _ (fun ⟨e1,e2,e3⟩=>hs.2 (e1▸hin j e2 e3)),hW.fro _ _⟩) agF1
           (fun b' j h3 hs=>by
            rcases h3 with h3|⟨i2,o2,h3⟩
            ·exact (O.iff _ _).2 (.inl h3)
            ·split at h3
             ·exact absurd hs (hBnS _ _ _ h3)
             ·exact O.sub h3) hys hupd
          have I':=set_ok G I L H1 (R':=⟨R1.t,R1.m,xs'⟩) hR1 hW (fun j h1 h2=>hsub _ _ (hin j h1 h2)) hO' (fun b' j hs=>by
           rcases hs with hs|hs
           ·exact .inl hs.1
           ·rcases hs with hs|⟨i2,o2,hs⟩
            ·exact .inl (hsub _ _ ((O.iff _ _).2 (.inl hs)))
            ·split at hs
             ·exact .inr (.inl (bn _ _ _ hs).2)
             ·exact .inl (hsub _ _ (O.sub hs)))
          refine ⟨.skip,undef,w',F1,_,_,?_, .inr ⟨rfl,rfl⟩,I', .dead _,fun u av hu=> ?_,fun j hj=> .inr (by by_cases e:j=r<;>simp [e]),L.grow I,fun _ _ _ _ e=>by cases e⟩
          ·unfold execOp
           rw [ho]
           obtain ⟨j,hj1,hj2,_⟩:=K.info t i hi
           have hsz: ¬((ρ y).cells.size≠j.size):=by
            have:(ρ y).cells.size=cs.length:=by simpa using hvl
            omega
           have hst:(Instr.storeAt t (ρ x) (ρ y)).run P w= .ok () w':=by
            rw [hxv]
            simp only [Instr.storeAt,Instr.sureAddr,storeVar,Pure.pure,Bind.bind,Sem.bind]
            rw [run_sizeOf hj1]
            rw [if_neg hsz]
            exact hrun
           simp only
           rw [Sem.run_bind,hst]
           rfl
          ·have hr0:root hp r=some R1:=hR
           have agS: ∀i' Ri b' j,i'≠r→root hp i'=some Ri→sets i' b' j→w'.cell? ⟨b',j,none⟩=w.cell? ⟨b',j,none⟩:=by
            intro i' Ri b' j hne hi' hs
            refine hW.out _ _ (fun ⟨e1,e2,e3⟩=>hne (I.H.dj _ _ _ _ hi' hr0 b' j hs (e1▸hsub _ _ (hin j e2 e3))))
           have hlt:=root_lt hR1
           have key: ∀(ks':List (Nat×Nat)),(∀kk,kk∈ks→kk∈ks')→(∀q:Path,hit ks' r q=false→q.length≤p.length∨(anyOwn cs=false∧anyOwn ((((E.cod row.t).enc R1.m (row.xs.getD k (E.cod row.t).zero)).drop oo).take cs.length)=false))→
             VRep E F1 w' (hp1.set r (some ⟨R1.t,R1.m,xs'⟩)) (fun i=>if i=r then vals r else vals i) u (killA ks' av):=by
            intro ks' hks hq
            refine survive (fun b j h=>⟨L.inc _ _ h,agF1 _ _ (L.inc _ _ h)⟩) (fun i' Ri q h1 hh=> ?_) hu
            by_cases e:i'=r
            ·subst e
             rw [hr0] at h1
             cases h1
             refine ⟨⟨R1.t,R1.m,xs'⟩,by rw [root_set,if_pos rfl,if_pos hlt],fun u2 row2 hl=> ?_⟩
             simp only [if_true]
             refine Loc.upd (C:=fun b' j=>b'=b∧off+(k*szOf E row.t+oo)≤j∧j<off+(k*szOf E row.t+oo)+cs.length) G p hOr h2
              (fun b' j hc=>⟨off,c,by rw [hc.1],by omega,by have:=hbase (j-off-k*szOf E row.t-oo) (by omega);omega⟩)
              (fun b' j hs hc=>hW.out _ _ (fun h=>hc (by rw [hvl] at h;exact h))) hupd hys List.length_set q hl ?_
             rcases hq q hh with h|⟨ha1,ha2⟩
             ·exact .inl h
             ·right
              intro i2 o2 x2 t2 zs g1 g2
              have hnot: ¬(i2=k∧oo≤o2∧o2<oo+cs.length):=by
               rintro ⟨rfl,e1,e2⟩
               rw [hx0] at g1
               cases g1
               rw [getD_of hx0] at ha2
               refine anyOwn_at (k:=o2-oo) (t:=t2) (ys:=zs) ha2 ?_
               rw [List.getElem?_take,if_pos (by omega),List.getElem?_drop,show oo+(o2-oo)=o2 by omega]
               exact g2
              have hC': ∀b' off' c',Value.slice (some ⟨b,off,none⟩) row.xs.length c= .slice (some ⟨b',off',none⟩) row.xs.length c'→ ¬(b'=b∧off+(k*szOf E row.t+oo)≤off'+(i2*szOf E row.t+o2)∧off'+(i2*szOf E row.t+o2)<off+(k*szOf E row.t+oo)+cs.length):=by
               intro b' off' c' e
               injection e with e1
               injection e1 with e1
               injection e1 with e1 e2
               subst e1 e2
               rintro ⟨_,j1,j2⟩
               have ho2:o2<szOf E row.t:=by have:=get_lt g2;rw [G.len] at this;exact this
               have:i2=k:=by
                rcases Nat.lt_trichotomy i2 k with h|h|h
                ·have:(i2+1)*szOf E row.t≤k*szOf E row.t:=Nat.mul_le_mul_right _ h
                 rw [Nat.succ_mul] at this
                 omega
                ·exact h
                ·have:(k+1)*szOf E row.t≤i2*szOf E row.t:=Nat.mul_le_mul_right _ h
                 rw [Nat.succ_mul] at this
                 omega
               subst this
               exact hnot ⟨rfl,by omega,by omega⟩
              by_cases ei:i2=k
              ·subst ei
               rw [hx0] at g1
               cases g1
               refine ⟨x1,by rw [List.getElem?_set,if_pos rfl,if_pos h3],?_,hC'⟩
               have hl':=G.len row.t R1.m x0
               have:=get_lt g2
               rw [hx1,List.append_assoc]
               by_cases g3:o2<oo
               ·rw [List.getElem?_append_left (by simp;omega),List.getElem?_take,if_pos g3];exact g2
               ·rw [List.getElem?_append_right (by simp;omega),List.getElem?_append_right (by simp;omega),List.getElem?_drop]
                rw [show (((E.cod row.t).enc R1.m x0).take oo).length=oo by simp;omega]
                rw [show oo+cs.length+(o2-oo-cs.length)=o2 by omega]
                exact g2
              ·exact ⟨x2,by rw [List.getElem?_set,if_neg (fun h=>ei h.symm)];exact g1,g2,hC'⟩
            ·rcases L.out _ _ h1 with h3'|⟨_,h3'⟩
             ·exact survive_root (hp':=hp1.set r (some ⟨R1.t,R1.m,xs'⟩)) (vals':=fun i=>if i=r then vals r else vals i) G I.H h1 (by rw [root_set,if_neg (fun h=>e h.symm)];exact h3') (if_neg e) (fun b' j s=>agS i' Ri b' j e h1 s)
             ·exact absurd (hit_mem hh (hks _ h3')) (by omega)
           simp only
           split
           ·refine key _ (fun kk hkk=>List.mem_cons_of_mem _ hkk) (fun q hq=> .inl ?_)
            have:=hit_mem hq (n:=p.length+1) (by simp)
            omega
           ·rename_i hany
            rw [Bool.or_eq_false_iff] at hany
            exact key _ (fun kk hkk=>hkk) (fun q _=> .inr hany)
        ·cases h
       ·cases h
      ·cases h
     ·cases h
    ·cases h
   ·cases h
  ·cases h
 ·cases h
end
end Go.Proofs.Ytggibjbcbicpjaa.Ev
namespace Go.Proofs.Ytggibjbcbicpjaa.Ev
open Go
set_option linter.unusedVariables false
set_option linter.unusedSimpArgs false
section
variable {P:Program} {w w':World}
def notInt:TypeDesc→Bool
 | .int _=>false
 |_=>true
theorem run_typeInfo {t:TypeId} {j:TypeInfo} (h:P.info? t=some j) {α:Type} (k:TypeInfo→Sem α) (w:World):((typeInfo t).bind k).run P w=(k j).run P w:=by
 simp [typeInfo,program,Bind.bind,Sem.bind,Sem.run,h,Pure.pure]
theorem run_zeroValue {t:TypeId} {j:TypeInfo} {z:Value} (h:P.info? t=some j) (hz:j.zero=some z) {α:Type} (k:Value→Sem α) (w:World):((zeroValue t).bind k).run P w=(k z).run P w:=by
 simp [zeroValue,typeInfo,program,Bind.bind,Sem.bind,Sem.run,h,hz,Pure.pure]
theorem run_then {α β:Type} {s:Sem α} {k:α→Sem β} {a:α} {w1:World} (h:s.run P w= .ok a w1):(s.bind k).run P w=(k a).run P w1:=by
 have:=Sem.run_bind (P:=P) (w:=w) s k
 refine this.trans ?_
 rw [h]
 rfl
theorem append_in {T T2 ty e n0 n1 cap:Nat} {base:Option Addr} {x:Value} {vs:List Value} {d2:TypeDesc} {j:TypeInfo} (h1:P.underlying T=some (.slice e)) (h2:P.underlying T2=some d2) (h3:notInt d2=true) (h4:P.info? e=some j)
  (hl:Builtin.lenOf x=Sem.pure n1) (hc:n0+n1≤cap) (hf:(Builtin.firstCells j.size n1 x).run P w= .ok vs.toArray w)
  (hs:match base with|some a=>(storeCells (a.add (n0*j.size)) vs 0).run P w= .ok () w'|none=>w'=w):
  (Builtin.append_ #[T,T2] ty #[.slice base n0 cap,x]).run P w= .ok (.slice base (n0+n1) cap) w':=by
 unfold Builtin.append_
 simp only [List.getElem?_toArray,List.getElem?_cons_zero,List.getElem?_cons_succ,Bind.bind]
 rw [run_underlying h1]
 simp only
 rw [run_sizeOf h4]
 rw [run_underlying h2]
 cases d2<;>first
  |(cases h3;done)
  |(
    simp only [Pure.pure,Sem.bind,Bool.false_eq_true,if_false,hl,if_pos hc,Bool.not_false,if_true]
    rw [run_then hf]
    cases base with
    |none=>subst hs;rfl
    |some a=>
     simp only [] at hs⊢
     rw [run_then hs]
     rfl)
theorem growBy_le {n:Nat}: ∀(k c:Nat),c≤2*n+512→Builtin.growBy n k c≤2*n+512
 |0,c,h=>h
 |k+1,c,h=>by
  unfold Builtin.growBy
  split
  ·exact h
  ·exact growBy_le k _ (by omega)
theorem nextcap_le {n c:Nat} (h:c<n):Builtin.nextslicecap n c≤2*n+512:=by
 unfold Builtin.nextslicecap
 split
 ·omega
 ·split
  ·omega
  ·exact growBy_le 4 c (by omega)
theorem append_grow {T T2 ty e n0 n1 cap:Nat} {base:Option Addr} {x:Value} {vs0 vs:List Value} {d2:TypeDesc} {j:TypeInfo} {z:Value} (h1:P.underlying T=some (.slice e)) (h2:P.underlying T2=some d2) (h3:notInt d2=true) (h4:P.info? e=some j) (h5:j.zero=some z)
  (hl:Builtin.lenOf x=Sem.pure n1) (hc: ¬n0+n1≤cap) (hb:(n0+n1+1)≤549755813888) (hb2:(n0+n1+1)*j.bytes≤549755813888)
  (hf0: ∀d,(Builtin.firstCells j.size n0 (.slice base n0 cap)).run P { w with drawn:=d }= .ok vs0.toArray { w with drawn:=d }) (hf: ∀d,(Builtin.firstCells j.size n1 x).run P { w with drawn:=d }= .ok vs.toArray { w with drawn:=d }):
  ∃c d,n0+n1≤c∧(Builtin.append_ #[T,T2] ty #[.slice base n0 cap,x]).run P w=
   .ok (.slice (some ⟨w.heap.size,0,none⟩) (n0+n1) c) (({ w with drawn:=d }:World).alloc (.cells (vs0.toArray++vs.toArray++Builtin.zeroCells z.cells (c-(n0+n1))) e)):=by
 have hcap:Builtin.nextslicecap (n0+n1) cap*j.bytes≤2 ^ 48:=by
  have a1:=nextcap_le (n:=n0+n1) (c:=cap) (by omega)
  calc Builtin.nextslicecap (n0+n1) cap*j.bytes≤(2*(n0+n1)+512)*j.bytes:=Nat.mul_le_mul_right _ a1
   _≤(512*(n0+n1+1))*j.bytes:=Nat.mul_le_mul_right _ (by omega)
   _=512*((n0+n1+1)*j.bytes):=Nat.mul_assoc _ _ _
   _≤512*549755813888:=Nat.mul_le_mul_left _ hb2
   _≤2 ^ 48:=by decide
 obtain ⟨c,hcc⟩: ∃c,c=(Question.appendCap (n0+n1) cap e).cut (w.tape w.drawn (.appendCap (n0+n1) cap e)):=⟨_,rfl⟩
 have hge:n0+n1≤c:=by rw [hcc];unfold Question.cut;exact Nat.le_add_right _ _
 refine ⟨c,w.drawn+1,hge,?_⟩
 unfold Builtin.append_
 simp only [List.getElem?_toArray,List.getElem?_cons_zero,List.getElem?_cons_succ,Bind.bind]
 rw [run_underlying h1]
 simp only
 rw [run_sizeOf h4]
 rw [run_underlying h2]
 have hmax: ¬((((n0+n1:Nat):Int)>IntKind.i64.max)∧(False∨j.bytes=0)):=by
  rintro ⟨h,_⟩
  have:IntKind.i64.max=9223372036854775807:=by decide
  rw [this] at h
  omega
 have hch:(choose (.appendCap (n0+n1) cap e)).run P w= .ok c { w with drawn:=w.drawn+1 }:=by
  simp [choose,Sem.run,Question.forced,hcc]
 have hask:(askRoom (c*j.bytes)).run P { w with drawn:=w.drawn+1 }= .ok () { w with drawn:=w.drawn+1 }:=by
  unfold askRoom
  split<;>rfl
 cases d2<;>first
  |(cases h3;done)
  |(
    simp only [Pure.pure,Sem.bind,Bool.false_eq_true,if_false,hl,if_neg hc,Bool.not_false,if_true]
    rw [run_typeInfo h4,if_neg hmax,run_typeInfo h4,if_neg (by omega),run_then hch,run_typeInfo h4,run_then hask,run_then (hf0 _),run_then (hf _),run_zeroValue h4 h5]
    rfl)
end
end Go.Proofs.Ytggibjbcbicpjaa.Ev
namespace Go.Proofs.Ytggibjbcbicpjaa.Ev
open Go
set_option linter.unusedVariables false
set_option linter.unusedSimpArgs false
section
variable {Ty:Nat→Type} (E:Tb Ty)
def castL (t2 t:Nat) (ys:List (Ty t2)):Option (List (Ty t)):=if h:t2=t then some (h▸ys) else none
def srcA (m:Bool) (t:Nat) (hp:Heap Ty):AV Ty→Option (List (Ty t)×Heap Ty×List (Nat×Nat))
 | .v (.slice _ 0 _)=>some ([],hp,[])
 | .sl false t2 ys=>match castL t2 t ys, !m || E.flat t with
  |some ys',true=>some (ys',hp,[])
  |_,_=>none
 | .ref r p vw _=>match root hp r with
  |some R=>match nav E R.m R.t R.xs p with
   |some row=>match castL row.t t (view row.xs vw) with
    |some ys=>match E.flat t || (!m && !R.m) with
     |true=>some (ys,hp,[])
     |false=>match p,vw,m && R.m with
      |[],none,true=>some (ys,hp.set r none,[(r,0)])
      |_,_,_=>none
    |none=>none
   |none=>none
  |none=>none
 |_=>none
def appT (m:Bool) (hp:Heap Ty) (e:Nat) (ei:TI) (x y:AV Ty):T (EffR Ty):=match x with
 | .v (.slice none 0 0)=>match srcA E m e hp y with
  |some (ys,hp1,ks)=> .ite (ys.length+1≤549755813888∧(ys.length+1)*ei.bytes≤549755813888) inferInstance (.ret (.ref hp1.length [] none false,hp1++[some ⟨e,m,ys⟩],ks)) .fail
  |none=> .fail
 | .ref r [] vw _=>match root hp r with
  |some R=>match Nat.beq (szOf E R.t) ei.sz,srcA E R.m R.t hp y with
   |true,some (ys,hp1,ks)=>match root hp1 r with
    |some _=> .ite (vlen R.xs vw+ys.length+1≤549755813888∧(vlen R.xs vw+ys.length+1)*ei.bytes≤549755813888) inferInstance
      (.ret (.ref r [] none false,hp1.set r (some ⟨R.t,R.m,view R.xs vw++ys⟩),(r,0) :: ks)) .fail
    |none=> .fail
   |_,_=> .fail
  |none=> .fail
 |_=> .fail
variable {E}
variable {X:Set2} {W0:World} {F F':Set2} {w w':World} {hp hp':Heap Ty} {vals vals':Nat→Value} {sets sets':Nat→Set2} {P:Program} {ρ:Operand→Value}
def rowVals (g:Nat→Nat→Value) (n z:Nat):List Value:=(List.range (n*z)).map fun k=>g (k / z) (k % z)
theorem rowVals_len (g:Nat→Nat→Value) (n z:Nat):(rowVals g n z).length=n*z:=by simp [rowVals]
theorem rowVals_get {g:Nat→Nat→Value} {n z i o:Nat} (hi:i<n) (ho:o<z):(rowVals g n z)[i*z+o]? =some (g i o):=by
 have hlt:=lt_cells hi (Nat.le_refl n) ho
 unfold rowVals
 rw [List.getElem?_map,List.getElem?_range hlt]
 simp only [Option.map_some]
 have h1:(i*z+o) / z=i:=by rw [Nat.mul_comm,Nat.mul_add_div (by omega),Nat.div_eq_of_lt ho,Nat.add_zero]
 have h2:(i*z+o) % z=o:=by rw [Nat.mul_comm,Nat.mul_add_mod,Nat.mod_eq_of_lt ho]
 rw [h1,h2]
theorem div_lt {n z k:Nat} (h:k<n*z):k / z<n∧k % z<z∧k=k / z*z+k % z:=by
 have hz:0<z:=by
  rcases Nat.eq_zero_or_pos z with h'|h'
  ·subst h'
   simp at h
  ·exact h'
 refine ⟨(Nat.div_lt_iff_lt_mul hz).2 h,Nat.mod_lt _ hz,?_⟩
 rw [Nat.mul_comm];exact (Nat.div_add_mod k z).symm
theorem rowLoad (G:Good E) {m:Bool} {t:Nat} {xs:List (Ty t)} {b off:Nat} {g:Nat→Nat→Value}
  (hc: ∀(i:Nat) x (o:Nat) a,xs[i]? =some x→((E.cod t).enc m x)[o]? =some a→w.cell? ⟨b,off+(i*szOf E t+o),none⟩=some (g i o)) (d:Nat):
  (loadCells ⟨b,off,none⟩ (xs.length*szOf E t)).run P { w with drawn:=d }= .ok (rowVals g xs.length (szOf E t)).toArray { w with drawn:=d }:=by
 have:=loadCells_ok (P:=P) (w:= { w with drawn:=d }) (b:=b) (base:=off) (vs:=rowVals g xs.length (szOf E t)) (xs.length*szOf E t) 0 #[] (fun k hk=>by
  obtain ⟨h1,h2,h3⟩:=div_lt hk
  refine ⟨g (k / szOf E t) (k % szOf E t),?_,?_⟩
  ·conv=>lhs;rw [h3]
   exact rowVals_get h1 h2
  ·have hx:xs[k / szOf E t]? =some xs[k / szOf E t]:=List.getElem?_eq_getElem h1
   have ho:k % szOf E t<((E.cod t).enc m xs[k / szOf E t]).length:=by rw [G.len];exact h2
   have:=hc _ _ _ _ hx (List.getElem?_eq_getElem ho)
   rw [←h3] at this
   rw [Nat.zero_add]
   exact this) (rowVals_len _ _ _)
 unfold loadCells
 rw [this]
 simp
theorem oneC_of {F:Set2} {w:World} {m:Bool} {t:Nat} (G:Good E) {x:Ty t} {o:Nat} {a:AV Ty} {v:Value} (h:((E.cod t).enc m x)[o]? =some a) (hr: ¬isOwn a→Rep E F w v a) (ho: ∀t' ys,a= .sl true t' ys→ ∃B,Own E F w m v t' ys B):oneC v=true:=by
 rcases G.cell t m x a (List.mem_of_getElem? h) with ⟨y,rfl,hy⟩|⟨q,t',ys,rfl,_⟩
 ·have:=hr (fun h=>h)
  cases this
  exact hy
 ·cases q with
  |false=>
   have:=hr (fun h=>h)
   obtain ⟨A,c,e⟩:=this.slen
   rw [e];rfl
  |true=>
   obtain ⟨B,hB⟩:=ho t' ys rfl
   obtain ⟨A,c,e⟩:=hB.head
   rw [e];rfl
theorem OwnR.cont (G:Good E) {m:Bool} {b off c t:Nat} {xs:List (Ty t)} {g:Nat→Nat→Value} {B:Nat→Nat→Set2} {S:Set2} (R:OwnR E F w m b off c t xs g B S):Cont E F w m t xs (rowVals g xs.length (szOf E t)) B:=by
 refine ⟨rowVals_len _ _ _,fun v hv=> ?_,fun i x o a v e1 e2 e3 e4=> ?_,fun i x o t' ys v e1 e2 e3=> ?_,R.dj,R.rg⟩
 ·unfold rowVals at hv
  obtain ⟨k,hk,rfl⟩:=List.mem_map.1 hv
  obtain ⟨h1,h2,h3⟩:=div_lt (List.mem_range.1 hk)
  have hx:xs[k / szOf E t]? =some xs[k / szOf E t]:=List.getElem?_eq_getElem h1
  have ho:k % szOf E t<((E.cod t).enc m xs[k / szOf E t]).length:=by rw [G.len];exact h2
  have ha:=List.getElem?_eq_getElem ho
  exact oneC_of G ha (R.rep _ _ _ _ hx ha) (fun t' ys e=>⟨_,R.own _ _ _ t' ys hx (by rw [ha,e])⟩)
 ·have ho:o<szOf E t:=by have:=get_lt e2;rw [G.len] at this;exact this
  rw [rowVals_get (get_lt e1) ho] at e3
  cases e3
  exact R.rep _ _ _ _ e1 e2 e4
 ·have ho:o<szOf E t:=by have:=get_lt e2;rw [G.len] at this;exact this
  rw [rowVals_get (get_lt e1) ho] at e3
  cases e3
  exact R.own _ _ _ _ _ e1 e2
theorem Own.cont (G:Good E) {m:Bool} {v:Value} {t:Nat} {xs:List (Ty t)} {S:Set2} (h:Own E F w m v t xs S): ∃vs B A c,v= .slice A xs.length c∧Cont E F w m t xs vs B∧(∀d,(Builtin.firstCells (szOf E t) xs.length v).run P { w with drawn:=d }= .ok vs.toArray { w with drawn:=d })∧
  (∀i o b j,B i o b j→S b j):=by
 rcases h.inv with ⟨⟨A,rfl⟩,rfl,hS⟩|⟨b,off,c,g,B,rfl,O⟩
 ·refine ⟨[],_,A,0,rfl,Cont.nil m t,fun d=> ?_,fun i o b j h=>h.elim⟩
  cases A with
  |none=>rfl
  |some a=>show (loadCells a (0*szOf E t)).run P _=_;rw [Nat.zero_mul];rfl
 ·exact ⟨_,B,_,c,rfl,O.cont G,fun d=>rowLoad G O.cell d,fun i o b j h=>O.sub h⟩
theorem castL_eq {t2 t:Nat} {ys:List (Ty t2)} {ys':List (Ty t)} (h:castL t2 t ys=some ys'): ∃e:t2=t,ys'=e▸ys:=by
 unfold castL at h
 split at h
 ·rename_i e;exact ⟨e,(Option.some.inj h).symm⟩
 ·cases h
theorem Cont.flat (G:Good E) {m m':Bool} {t:Nat} {zs:List (Ty t)} {vs:List Value} {B:Nat→Nat→Set2} (h:Cont E F w m t zs vs B) (hf:E.flat t=true):Cont E F w m' t zs vs (fun _ _ _ _=>False):=by
 have he: ∀x,(E.cod t).enc m' x=(E.cod t).enc m x:=by
  intro x
  have:=(G.flat t hf x).1
  cases m<;>cases m'<;>first|rfl|exact this|exact this.symm
 refine ⟨h.len,h.one,fun i x o a v e1 e2 e3 e4=>h.rep i x o a v e1 (by rw [←he];exact e2) e3 e4,fun i x o t' ys v e1 e2 e3=> ?_,fun _ _ _ _ _ _ h=>h.elim,fun _ _ _ _ h=>h.elim⟩
 obtain ⟨y,hy⟩:=(G.flat t hf x).2 m' _ (List.mem_of_getElem? e2)
 cases hy
theorem Cont.shallow (G:Good E) {t:Nat} {zs:List (Ty t)} {vs:List Value} {B:Nat→Nat→Set2} (h:Cont E F w false t zs vs B):Cont E F w false t zs vs (fun _ _ _ _=>False):=by
 refine ⟨h.len,h.one,h.rep,fun i x o t' ys v e1 e2 e3=> ?_,fun _ _ _ _ _ _ h=>h.elim,fun _ _ _ _ h=>h.elim⟩
 exact (G.frozen e2).elim
theorem src_ok (G:Good E) (H:HRel E F w hp vals sets) {m:Bool} {t:Nat} {v:Value} {y:AV Ty} (hy:VRep E F w hp vals v y) {ys:List (Ty t)} {hp1:Heap Ty} {ks:List (Nat×Nat)} (h:srcA E m t hp y=some (ys,hp1,ks)):
  ∃vs B A c,v= .slice A ys.length c∧Less F F sets hp hp1 ks∧HRel E F w hp1 vals sets∧Cont E F w m t ys vs B∧(∀d,(Builtin.firstCells (szOf E t) ys.length v).run P { w with drawn:=d }= .ok vs.toArray { w with drawn:=d })∧
   (∀i o b j,B i o b j→ ∃r R,root hp r=some R∧root hp1 r=none∧sets r b j):=by
 unfold srcA at h
 split at h
 ·cases h
  have e:=hy.v
  subst e
  rename_i A c
  refine ⟨[],_,A,c,rfl, .refl _ _ _,H,Cont.nil m t,fun d=> ?_,fun i o b j h=>h.elim⟩
  cases A with
  |none=>rfl
  |some a=>show (loadCells a (0*szOf E t)).run P _=_;rw [Nat.zero_mul];rfl
 ·rename_i t2 ys2
  split at h
  ·rename_i ys' hc hm
   cases h
   obtain ⟨e,rfl⟩:=castL_eq hc
   subst e
   have hr:=hy.sl
   have base: ∃vs A c,v= .slice A ys2.length c∧Cont E F w false t2 ys2 vs (fun _ _ _ _=>False)∧ ∀d,(Builtin.firstCells (szOf E t2) ys2.length v).run P { w with drawn:=d }= .ok vs.toArray { w with drawn:=d }:=by
    cases hr with
    |nil A c t=>
     refine ⟨[],A,c,rfl,Cont.nil _ _,fun d=> ?_⟩
     cases A with
     |none=>rfl
     |some a=>show (loadCells a (0*szOf E t2)).run P _=_;rw [Nat.zero_mul];rfl
    |sl b off c _ _ g h1 h2 h3=>
     refine ⟨rowVals g ys2.length (szOf E t2),_,c,rfl,⟨rowVals_len _ _ _,fun v hv=> ?_,fun i x o a v e1 e2 e3 e4=> ?_,fun i x o t' zs v e1 e2 e3=> ?_,fun _ _ _ _ _ _ h=>h.elim,fun _ _ _ _ h=>h.elim⟩,fun d=>rowLoad G (fun i x o a e1 e2=>(h2 i x o a e1 e2).1) d⟩
     ·unfold rowVals at hv
      obtain ⟨k,hk,rfl⟩:=List.mem_map.1 hv
      obtain ⟨k1,k2,k3⟩:=div_lt (List.mem_range.1 hk)
      have hx:ys2[k / szOf E t2]? =some ys2[k / szOf E t2]:=List.getElem?_eq_getElem k1
      have ho:k % szOf E t2<((E.cod t2).enc false ys2[k / szOf E t2]).length:=by rw [G.len];exact k2
      have ha:=List.getElem?_eq_getElem ho
      refine oneC_of (m:=false) G ha (fun _=>h3 _ _ _ _ hx ha) (fun t' zs e=> ?_)
      rw [e] at ha
      exact (G.frozen ha).elim
     ·have ho:o<szOf E t2:=by have:=get_lt e2;rw [G.len] at this;exact this
      rw [rowVals_get (get_lt e1) ho] at e3
      cases e3
      exact h3 _ _ _ _ e1 e2
     ·exact (G.frozen e2).elim
   obtain ⟨vs,A,c,b1,b2,b3⟩:=base
   refine ⟨vs,fun _ _ _ _=>False,A,c,b1, .refl _ _ _,H,?_,b3,fun i o b j h=>h.elim⟩
   cases m with
   |false=>exact b2
   |true=>exact b2.flat G (by simpa using hm)
  ·cases h
 ·rename_i r p vw full
  obtain ⟨R,u,row,k1,k2,k3⟩:=hy.ref'
  rw [k1] at h
  simp only at h
  rw [k2.nav] at h
  simp only at h
  split at h
  ·rename_i ys' hc
   obtain ⟨S,hO⟩:=H.at G k1 k2
   obtain ⟨S',hV,hsub⟩:=hO.view G k3
   split at h
   ·rename_i hfl
    cases h
    obtain ⟨e,rfl⟩:=castL_eq hc
    obtain ⟨rt,rxs⟩:=row
    simp only at e
    subst e
    obtain ⟨vs,B,A,c,q1,q2,q3,q4⟩:=hV.cont (P:=P) G
    refine ⟨vs,fun _ _ _ _=>False,A,c,q1, .refl _ _ _,H,?_,q3,fun i o b j h=>h.elim⟩
    rw [Bool.or_eq_true] at hfl
    rcases hfl with hfl|hfl
    ·exact q2.flat G hfl
    ·have hm:m=false∧R.m=false:=by simpa using hfl
     rw [hm.2] at q2
     rw [hm.1]
     exact q2.shallow G
   ·split at h
    ·rename_i hfl hm
     cases h
     obtain ⟨e,rfl⟩:=castL_eq hc
     obtain ⟨rfl,rfl⟩:=k2
     simp only at e
     obtain ⟨k3,_⟩:=k3
     subst e
     have hmm:m=true∧R.m=true:=by simpa using hm
     have hlt:=root_lt k1
     have hroot: ∀r',root (hp.set r none) r'=if r=r' then none else root hp r':=by
      intro r'
      rw [root_set]
      split
      ·simp
      ·rfl
     have hOr:=H.own r R k1
     obtain ⟨vs,B,A,c,q1,q2,q3,q4⟩:=hOr.cont (P:=P) G
     refine ⟨vs,B,A,c,by rw [k3];exact q1,⟨fun r' R' e=> ?_,fun r' R' e=> ?_,fun _ _ h=>h,fun _ _ h=> .inl h,List.length_set⟩,⟨fun r' R' e=> ?_,fun r1 r2 R1 R2 e1 e2=> ?_⟩,by rw [hmm.1,←hmm.2];exact q2,by rw [k3];exact q3,fun i o b j h=>⟨r,R,k1,by rw [hroot,if_pos rfl],q4 _ _ _ _ h⟩⟩
     ·rw [hroot] at e;split at e<;>simp_all
     ·rw [hroot]
      by_cases e':r=r'
      ·subst e';exact .inr ⟨if_pos rfl,by simp⟩
      ·rw [if_neg e'];exact .inl e
     ·rw [hroot] at e;split at e
      ·cases e
      ·exact H.own _ _ e
     ·rw [hroot] at e1 e2
      split at e1
      ·cases e1
      ·split at e2
       ·cases e2
       ·exact H.dj _ _ _ _ e1 e2
    ·cases h
  ·cases h
 ·cases h
theorem OwnR.extend (G:Good E) {m:Bool} {b off c t:Nat} {xs ys:List (Ty t)} {g:Nat→Nat→Value} {B B':Nat→Nat→Set2} {S:Set2} (R:OwnR E F w m b off c t xs g B S) {vs:List Value} (hC:Cont E F w m t ys vs B') (hn:xs.length+ys.length≤c)
  (hW:Wrote w w' b (off+xs.length*szOf E t) vs) (hS: ∀i o b' j,B' i o b' j→ ¬S b' j):
  ∃S',Own E F w' m (.slice (some ⟨b,off,none⟩) (xs.length+ys.length) c) t (xs++ys) S'∧ ∀b' j,S' b' j→S b' j∨ ∃i o,B' i o b' j:=by
 have hroom: ∀j,off+xs.length*szOf E t≤j→j<off+xs.length*szOf E t+vs.length→j-off<c*szOf E t:=by
  intro j h1 h2
  rw [hC.len] at h2
  have:(xs.length+ys.length)*szOf E t≤c*szOf E t:=Nat.mul_le_mul_right _ hn
  rw [Nat.add_mul] at this
  omega
 have hW1: ∀b' j,¬(b'=b∧off≤j∧j<off+c*szOf E t)→w'.cell? ⟨b',j,none⟩=w.cell? ⟨b',j,none⟩:=by
  intro b' j h
  refine hW.out _ _ (fun ⟨e1,e2,e3⟩=>h ⟨e1,by omega,?_⟩)
  have:=hroom j e2 e3
  omega
 have hF1: ∀b' j,F b' j→w'.cell? ⟨b',j,none⟩=w.cell? ⟨b',j,none⟩:=by
  intro b' j h
  refine hW1 _ _ (fun ⟨e1,e2,e3⟩=> ?_)
  subst e1
  have:=(R.cap (j-off) (by omega)).2.2
  rw [show off+(j-off)=j by omega] at this
  exact this h
 have split: ∀(i:Nat) x (o:Nat) a,(xs++ys)[i]? =some x→((E.cod t).enc m x)[o]? =some a→(i<xs.length∧xs[i]? =some x)∨(¬i<xs.length∧ys[i-xs.length]? =some x):=by
  intro i x o a e1 e2
  by_cases hi:i<xs.length
  ·exact .inl ⟨hi,by rw [List.getElem?_append_left hi] at e1;exact e1⟩
  ·exact .inr ⟨hi,by rw [List.getElem?_append_right (by omega)] at e1;exact e1⟩
 have val: ∀(i o:Nat) x a,ys[i]? =some x→((E.cod t).enc m x)[o]? =some a→ ∃v,vs[i*szOf E t+o]? =some v:=by
  intro i o x a e1 e2
  exact ⟨_,List.getElem?_eq_getElem (by rw [hC.len];exact G.lt (Nat.le_refl _) e1 e2)⟩
 refine ⟨fun b' j'=>(b'=b∧off≤j'∧j'<off+c*szOf E t)∨ ∃i o,(if i<xs.length then B i o b' j' else B' (i-xs.length) o b' j'),?_,?_⟩
 ·rw [show xs.length+ys.length=(xs++ys).length by simp]
  refine OwnR.toOwn (g:=fun i o=>if i<xs.length then g i o else vs.getD ((i-xs.length)*szOf E t+o) undef) (B:=fun i o=>if i<xs.length then B i o else B' (i-xs.length) o)
   (S:=fun b' j'=>(b'=b∧off≤j'∧j'<off+c*szOf E t)∨ ∃i o,(if i<xs.length then B i o b' j' else B' (i-xs.length) o b' j')) ⟨by simp;exact hn,fun j hj=> ?_,fun i x o a e1 e2=> ?_,fun i x o a e1 e2 e3=> ?_,fun i x o t' zs e1 e2=> ?_,fun i o i' o' b' j' e1 e2=> ?_,fun i o j hj e=> ?_,fun i o b' j' e=> ?_,fun b' j'=> ?_⟩
  ·obtain ⟨⟨v,hv⟩,h2,h3⟩:=R.cap j hj
   refine ⟨?_,(hW.fro _ _).trans h2,h3⟩
   by_cases e:off+xs.length*szOf E t≤off+j∧off+j<off+xs.length*szOf E t+vs.length
   ·have:=hW.inn (j-xs.length*szOf E t) _ (List.getElem?_eq_getElem (by omega))
    rw [show off+xs.length*szOf E t+(j-xs.length*szOf E t)=off+j by omega] at this
    exact ⟨_,this⟩
   ·exact ⟨v,(hW.out _ _ (fun h=>e ⟨h.2.1,h.2.2⟩)).trans hv⟩
  ·rcases split i x o a e1 e2 with ⟨hi,k1⟩|⟨hi,k1⟩
   ·rw [if_pos hi]
    have:=R.cell _ _ _ _ k1 e2
    rw [hW.out]
    ·exact this
    ·rintro ⟨_,h1,h2⟩
     have ho:o<szOf E t:=by have:=get_lt e2;rw [G.len] at this;exact this
     have:=lt_cells hi (Nat.le_refl _) ho
     omega
   ·rw [if_neg hi]
    obtain ⟨v,hv⟩:=val _ _ _ _ k1 e2
    rw [getD_of hv]
    have:=hW.inn _ _ hv
    have hge:xs.length*szOf E t≤i*szOf E t:=Nat.mul_le_mul_right _ (by omega)
    rw [Nat.sub_mul,show off+xs.length*szOf E t+(i*szOf E t-xs.length*szOf E t+o)=off+(i*szOf E t+o) by omega] at this
    exact this
  ·rcases split i x o a e1 e2 with ⟨hi,k1⟩|⟨hi,k1⟩
   ·rw [if_pos hi];exact (R.rep _ _ _ _ k1 e2 e3).stable fun b' j h=>⟨h,hF1 _ _ h⟩
   ·rw [if_neg hi]
    obtain ⟨v,hv⟩:=val _ _ _ _ k1 e2
    rw [getD_of hv]
    exact (hC.rep _ _ _ _ _ k1 e2 hv e3).stable fun b' j h=>⟨h,hF1 _ _ h⟩
  ·rcases split i x o _ e1 e2 with ⟨hi,k1⟩|⟨hi,k1⟩
   ·rw [if_pos hi,if_pos hi]
    refine (R.own _ _ _ _ _ k1 e2).stable G (fun b' j h=>⟨h,hF1 _ _ h⟩) (fun b' j h=>⟨hW1 _ _ (fun ⟨e1,e2,e3⟩=> ?_),hW.fro _ _⟩) (fun b' j _ h=>h)
    subst e1
    have:=R.dr i o (j-off) (by omega)
    rw [show off+(j-off)=j by omega] at this
    exact this h
   ·rw [if_neg hi,if_neg hi]
    obtain ⟨v,hv⟩:=val _ _ _ _ k1 e2
    rw [getD_of hv]
    refine (hC.own _ _ _ _ _ _ k1 e2 hv).stable G (fun b' j h=>⟨h,hF1 _ _ h⟩) (fun b' j h=>⟨hW1 _ _ (fun e=>hS _ _ _ _ h ((R.iff _ _).2 (.inl e))),hW.fro _ _⟩) (fun b' j _ h=>h)
  ·split at e1<;>split at e2
   ·exact R.dj _ _ _ _ _ _ e1 e2
   ·exact absurd (R.sub e1) (hS _ _ _ _ e2)
   ·exact absurd (R.sub e2) (hS _ _ _ _ e1)
   ·have:=hC.dj _ _ _ _ _ _ e1 e2;omega
  ·split at e
   ·exact R.dr _ _ _ hj e
   ·exact hS _ _ _ _ e (R.mem hj)
  ·split at e
   ·rename_i hi
    obtain ⟨x,t',zs,k1,k2⟩:=R.rg _ _ _ _ e
    exact ⟨x,t',zs,by rw [List.getElem?_append_left hi];exact k1,k2⟩
   ·rename_i hi
    obtain ⟨x,t',zs,k1,k2⟩:=hC.rg _ _ _ _ e
    exact ⟨x,t',zs,by rw [List.getElem?_append_right (by omega)];exact k1,k2⟩
  ·constructor
   ·rintro (h|⟨i,o,h⟩)
    ·exact .inl h
    ·refine .inr ⟨i,o,?_⟩
     split<;>rename_i e
     ·rw [if_pos e] at h;exact h
     ·rw [if_neg e] at h;exact h
   ·rintro (h|⟨i,o,h⟩)
    ·exact .inl h
    ·refine .inr ⟨i,o,?_⟩
     split at h<;>rename_i e
     ·rw [if_pos e];exact h
     ·rw [if_neg e];exact h
 ·intro b' j' h
  rcases h with h|⟨i,o,h⟩
  ·exact .inl ((R.iff _ _).2 (.inl h))
  ·split at h
   ·exact .inl (R.sub h)
   ·exact .inr ⟨_,_,h⟩
theorem Inv.drew (I:Inv E X W0 F w hp vals sets) (G:Good E) (d:Nat):Inv E X W0 F { w with drawn:=d } hp vals sets:=
 ⟨⟨fun r R h=>(I.H.own r R h).stable (w:=w) (w':= { w with drawn:=d }) G (fun b j h=>⟨h,rfl⟩) (fun b j h=>⟨rfl,rfl⟩) (fun b j _ h=>h),I.H.dj⟩,I.fb,I.lim,⟨I.keep.os,I.keep.tape,I.keep.output,I.keep.size,I.keep.block,I.keep.cell⟩⟩
theorem VRep.drew {v:Value} {a:AV Ty} (d:Nat) (h:VRep E F w hp vals v a):VRep E F { w with drawn:=d } hp vals v a:=by
 have hl: ∀(m:Bool) (p:Path) (v:Value) (t:Nat) (xs:List (Ty t)) (u:Value) (row:Row Ty),Loc E w m v t xs p u row→Loc E { w with drawn:=d } m v t xs p u row:=by
  intro m p
  induction p with
  |nil=>intro v t xs u row h;exact h
  |cons s p ih=>intro v t xs u row ⟨b,off,c,x,t',ys,v',h1,h2,h3,h4,h5⟩;exact ⟨b,off,c,x,t',ys,v',h1,h2,h3,h4,ih _ _ _ _ _ h5⟩
 induction h with
 |rep v a h=>exact .rep _ _ (h.stable (w:=w) (w':= { w with drawn:=d }) fun b j h=>⟨h,rfl⟩)
 |ref r p vw full v R u row h1 h2 h3=>exact .ref r p vw full v R u row h1 (hl _ _ _ _ _ _ _ h2) h3
 |ptr r p i o R b off c row h1 h2 h3=>exact .ptr r p i o R b off c row h1 (hl _ _ _ _ _ _ _ h2) h3
 |agg vs cs h1 h2 ih=>exact .agg vs cs h1 ih
 |tup vs cs h1 h2 ih=>exact .tup vs cs h1 ih
 |dead v=>exact .dead v
 |mp v kd q kv=>exact .mp v kd q kv
 |vb b j vs cs h1 h0 h2 ih=>exact .vb b j vs cs h1 h0 ih
 |ext v r p t xs=>exact .ext v r p t xs
theorem setNew_ok (G:Good E) (I:Inv E X W0 F w hp vals sets) {hp1:Heap Ty} {ks:List (Nat×Nat)} (L:Less F F sets hp hp1 ks) (H1:HRel E F w hp1 vals sets) {r:Nat} {R R':Root Ty} (hr:root hp1 r=some R) {o:Obj} {v:Value} {S:Set2}
  (hO:Own E F (w.alloc o) R'.m v R'.t R'.xs S) (hS: ∀b j,S b j→b=w.heap.size∨sets r b j∨ ∃r' R'',root hp r'=some R''∧root hp1 r'=none∧sets r' b j):
  Inv E X W0 F (w.alloc o) (hp1.set r (some R')) (fun i=>if i=r then v else vals i) (fun i=>if i=r then S else sets i):=by
 have hlt:=root_lt hr
 have hroot: ∀i,root (hp1.set r (some R')) i=if r=i then some R' else root hp1 i:=by
  intro i
  rw [root_set,if_pos hlt]
 have slt: ∀i Ri b j,root hp1 i=some Ri→sets i b j→b<w.heap.size:=fun i Ri b j h1 h2=>I.lt (L.sub _ _ h1) h2
 have sep: ∀i Ri,i≠r→root hp1 i=some Ri→ ∀b j,S b j→sets i b j→False:=by
  intro i Ri hne hi b j h1 h2
  rcases hS b j h1 with h|h|⟨r',R'',q1,q2,q3⟩
  ·have:=slt _ _ _ _ hi h2;omega
  ·exact hne (H1.dj _ _ _ _ hi hr b j h2 h)
  ·have:=I.H.dj _ _ _ _ q1 (L.sub _ _ hi) b j q3 h2
   subst this
   rw [q2] at hi;cases hi
 refine ⟨⟨fun i Ri h=> ?_,fun i i' Ri Ri' h1 h2 b j s1 s2=> ?_⟩,fun b j h=>by rw [World.size_alloc];have:=I.fb _ _ h;omega,fun i Ri b j h s=> ?_,I.keep.alloc o⟩
 ·rw [hroot] at h
  by_cases e:i=r
  ·subst e
   rw [if_pos rfl] at h
   cases h
   simpa using hO
  ·rw [if_neg (fun h=>e h.symm)] at h
   simp only [if_neg e]
   exact (H1.own i Ri h).stable G (fun b j h=>⟨h,cell_alloc_old (I.fb _ _ h)⟩) (fun b' j s=>⟨cell_alloc_old (slt _ _ _ _ h s),frozen_alloc_old (slt _ _ _ _ h s)⟩) (fun b j _ h=>h)
 ·rw [hroot] at h1 h2
  by_cases e1:i=r<;>by_cases e2:i'=r
  ·rw [e1,e2]
  ·simp only [if_pos e1] at s1;simp only [if_neg e2] at s2;rw [if_neg (fun h=>e2 h.symm)] at h2;exact (sep _ _ e2 h2 _ _ s1 s2).elim
  ·simp only [if_neg e1] at s1;simp only [if_pos e2] at s2;rw [if_neg (fun h=>e1 h.symm)] at h1;exact (sep _ _ e1 h1 _ _ s2 s1).elim
  ·simp only [if_neg e1] at s1;simp only [if_neg e2] at s2;rw [if_neg (fun h=>e1 h.symm)] at h1;rw [if_neg (fun h=>e2 h.symm)] at h2;exact H1.dj _ _ _ _ h1 h2 b j s1 s2
 ·rw [hroot] at h
  by_cases e:i=r
  ·simp only [if_pos e] at s
   rcases hS b j s with h'|h'|⟨r',R'',q1,q2,q3⟩
   ·right;have:=I.keep.size;omega
   ·exact I.lim r R b j (L.sub _ _ hr) h'
   ·exact I.lim _ _ _ _ q1 q3
  ·simp only [if_neg e] at s
   rw [if_neg (fun h=>e h.symm)] at h
   exact I.lim _ _ _ _ (L.sub _ _ h) s
end
end Go.Proofs.Ytggibjbcbicpjaa.Ev
