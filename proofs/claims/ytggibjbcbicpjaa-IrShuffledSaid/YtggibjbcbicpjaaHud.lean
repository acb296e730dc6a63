/- The evaluator, what it gives of the functions that are called, and the plain law: part 4 of 6. -/
import Derived.Test.YtggibjbcbicpjaaProg
import Derived.IntWalk
import Derived.Test.YtggibjbcbicpjaaHuc
namespace Go.Proofs.Ytggibjbcbicpjaa.Ev
open Go
set_option linter.unusedVariables false
set_option linter.unusedSimpArgs false
@[ext] structure Extern where
 name:ByteArray
 params:(List Int)
 result:Int
deriving Inhabited,DecidableEq
@[ext] structure Global where
 name:ByteArray
 cells:(List Int)
deriving Inhabited,DecidableEq
@[ext] structure Table where
 name:ByteArray
 funcs:(List Int)
deriving Inhabited,DecidableEq
@[ext] structure Ins where
 op:Int
 type_:Int
 to_:Int
 sym_:Int
 num:Int
 args:(List Int)
 into:(List Int)
deriving Inhabited,DecidableEq
@[ext] structure Block where
 ins:(List Ins)
deriving Inhabited,DecidableEq
@[ext] structure Func where
 name:ByteArray
 out:Bool
 params:(List Int)
 result:Int
 blocks:(List Block)
deriving Inhabited,DecidableEq
@[ext] structure Module where
 externs:(List Extern)
 globals:(List Global)
 tables:(List Table)
 funcs:(List Func)
deriving Inhabited,DecidableEq
@[ext] structure S162 where
 a0:Int
 a1:Int
deriving Inhabited,DecidableEq
structure FFunc where
 x:Func
 q0:Bool
 q1:Bool
deriving Inhabited,DecidableEq
structure FIns where
 x:Ins
 q0:Bool
 q1:Bool
deriving Inhabited,DecidableEq
structure FExtern where
 x:Extern
 q0:Bool
deriving Inhabited,DecidableEq
structure FGlobal where
 x:Global
 q0:Bool
deriving Inhabited,DecidableEq
structure FTable where
 x:Table
 q0:Bool
deriving Inhabited,DecidableEq
def Ty:Nat→Type
 |2=>Int
 |3=>Int
 |4=>Bool
 |6=>Int
 |9=>ByteArray
 |22=>(List Extern)
 |23=>(List Global)
 |24=>(List Table)
 |25=>(List Func)
 |27=>Module
 |30=>(List Int)
 |31=>(List Block)
 |33=>Func
 |42=>(List Ins)
 |44=>Block
 |46=>Ins
 |52=>(List (List Int))
 |71=>(List Bool)
 |91=>Extern
 |92=>(List Int)
 |94=>Global
 |96=>Table
 |101=>(List (List Bool))
 |162=>S162
 |1033=>FFunc
 |1046=>FIns
 |1091=>FExtern
 |1094=>FGlobal
 |1096=>FTable
 |_=>Unit
instance tyInh (t:Nat):Inhabited (Ty t):=by unfold Ty;split<;>exact ⟨default⟩
def iD (k:IntKind):AV Ty→Option Int
 | .v (.int k' n)=>if k'=k then some n else none
 |_=>none
def bD:AV Ty→Option Bool
 | .v (.bool b)=>some b
 |_=>none
def sD:AV Ty→Option ByteArray
 | .v (.string s)=>some s
 |_=>none
def slD (m:Bool) (t:Nat):AV Ty→Option (List (Ty t))
 | .sl b t' xs=>match sameM b m with
  |true=>castL t' t xs
  |false=>none
 |_=>none
theorem iD_eq {k:IntKind} {a:AV Ty} {x:Int} (h:iD k a=some x):a= .v (.int k x):=by
 unfold iD at h
 split at h
 ·split at h
  ·rename_i e;subst e;cases h;rfl
  ·cases h
 ·cases h
theorem bD_eq {a:AV Ty} {x:Bool} (h:bD a=some x):a= .v (.bool x):=by
 unfold bD at h
 split at h
 ·cases h;rfl
 ·cases h
theorem sD_eq {a:AV Ty} {x:ByteArray} (h:sD a=some x):a= .v (.string x):=by
 unfold sD at h
 split at h
 ·cases h;rfl
 ·cases h
theorem slD_eq {m:Bool} {t:Nat} {a:AV Ty} {xs:List (Ty t)} (h:slD m t a=some xs):a= .sl m t xs:=by
 unfold slD at h
 split at h
 ·split at h
  ·rename_i e
   obtain ⟨e1,e2⟩:=castL_eq h
   subst e1
   rw [e2,sameM_eq e]
  ·cases h
 ·cases h
structure CodOk {t:Nat} (c:Cod Ty t) (flat:Bool):Prop where
 len: ∀m x,(c.enc m x).length=c.sz
 cell: ∀m x a,a∈c.enc m x→(∃y:Value,a= .v y∧oneC y=true)∨ ∃q t' ys,a= .sl q t' ys∧(q=true→m=true)
 dec: ∀m cs x,c.dec m cs=some x→c.enc m x=cs
 flip: ∀x (o:Nat) t' ys,(c.enc true x)[o]? =some (AV.sl true t' ys)→(c.enc false x)[o]? =some (AV.sl false t' ys)
 flat:flat=true→ ∀x,c.enc true x=c.enc false x∧ ∀m a,a∈c.enc m x→ ∃y,a= .v y
 flip': ∀x (o:Nat) a,(c.enc true x)[o]? =some a→ ¬isOwn a→(c.enc false x)[o]? =some a
theorem flips (l l':List (AV Ty)) (h:l.length=l'.length) (hs: ∀(o:Nat) a b,l[o]? =some a→l'[o]? =some b→(a=b∧ ¬isOwn a)∨ ∃t ys,a= .sl true t ys∧b= .sl false t ys):
  (∀(o:Nat) t' ys,l[o]? =some (AV.sl true t' ys)→l'[o]? =some (AV.sl false t' ys))∧ ∀(o:Nat) a,l[o]? =some a→ ¬isOwn a→l'[o]? =some a:=by
 refine ⟨fun o t ys e=> ?_,fun o a e hn=> ?_⟩
 ·have hl:o<l'.length:=by rw [←h];exact get_lt e
  rcases hs o _ _ e (List.getElem?_eq_getElem hl) with ⟨_,h2⟩|⟨t',ys',h1,h2⟩
  ·exact absurd trivial h2
  ·injection h1 with e1 e2 e3
   subst e2
   cases e3
   rw [List.getElem?_eq_getElem hl,h2]
 ·have hl:o<l'.length:=by rw [←h];exact get_lt e
  rcases hs o _ _ e (List.getElem?_eq_getElem hl) with ⟨h1,_⟩|⟨t',ys',h1,h2⟩
  ·rw [List.getElem?_eq_getElem hl,←h1]
  ·rw [h1] at hn;exact absurd trivial hn
def codNone (t:Nat):Cod Ty t:=⟨0,default,fun _ _=>[],fun _ l=>match l with
 |[]=>some default
 |_=>none⟩
theorem codNone_ok (t:Nat) (q:Bool):CodOk (codNone t) q:=by
 refine ⟨fun _ _=>rfl,fun m x a h=>(by cases h),fun m cs x h=> ?_,fun x o t' ys h=>(by simp [codNone] at h),fun h x=>⟨rfl,fun m a h=>(by cases h)⟩,fun x o a h=>(by simp [codNone] at h)⟩
 unfold codNone at h⊢
 simp only at h⊢
 split at h
 ·rfl
 ·cases h
def cod2:Cod Ty 2:= { sz:=1,zero:=(0:Int),enc:=fun m (x:Int)=>[.v (.int .i64 x)],dec:=fun m l=>match l with
 |[a0]=>match iD .i64 a0 with
  |some x0=>some (x0:Int)
  |_=>none
 |_=>none }
theorem cod2_ok:CodOk cod2 true:=by
 have fl: ∀x:Int,_:=fun x=>flips (cod2.enc true x) (cod2.enc false x) rfl (fun o a b h h'=>by
  have hlt:o<1:=get_lt h
  match o,hlt with
  |0,_=>cases h;cases h';first|exact .inl ⟨rfl,fun h=>h⟩|exact .inr ⟨_,_,rfl,rfl⟩
  )
 refine ⟨fun m x=>rfl,fun m x a h=> ?_,fun m cs x h=> ?_,fun x=>(fl x).1,fun h x=>⟨rfl,fun m a h=> ?_⟩,fun x=>(fl x).2⟩
 ·simp only [cod2,List.mem_cons,List.not_mem_nil,or_false] at h
  rcases h with rfl<;>first|exact .inl ⟨_,rfl,rfl⟩|exact .inr ⟨_,_,_,rfl,fun h=>h⟩|exact .inr ⟨_,_,_,rfl,fun h=>by cases h⟩
 ·unfold cod2 at h⊢
  simp only at h⊢
  split at h
  ·split at h
   ·rename_i h0
    cases h
    rw [iD_eq h0]
   ·cases h
  ·cases h
 ·simp only [cod2,List.mem_cons,List.not_mem_nil,or_false] at h
  rcases h with rfl<;>exact ⟨_,rfl⟩
def cod3:Cod Ty 3:= { sz:=1,zero:=(0:Int),enc:=fun m (x:Int)=>[.v (.int .i64 x)],dec:=fun m l=>match l with
 |[a0]=>match iD .i64 a0 with
  |some x0=>some (x0:Int)
  |_=>none
 |_=>none }
theorem cod3_ok:CodOk cod3 true:=by
 have fl: ∀x:Int,_:=fun x=>flips (cod3.enc true x) (cod3.enc false x) rfl (fun o a b h h'=>by
  have hlt:o<1:=get_lt h
  match o,hlt with
  |0,_=>cases h;cases h';first|exact .inl ⟨rfl,fun h=>h⟩|exact .inr ⟨_,_,rfl,rfl⟩
  )
 refine ⟨fun m x=>rfl,fun m x a h=> ?_,fun m cs x h=> ?_,fun x=>(fl x).1,fun h x=>⟨rfl,fun m a h=> ?_⟩,fun x=>(fl x).2⟩
 ·simp only [cod3,List.mem_cons,List.not_mem_nil,or_false] at h
  rcases h with rfl<;>first|exact .inl ⟨_,rfl,rfl⟩|exact .inr ⟨_,_,_,rfl,fun h=>h⟩|exact .inr ⟨_,_,_,rfl,fun h=>by cases h⟩
 ·unfold cod3 at h⊢
  simp only at h⊢
  split at h
  ·split at h
   ·rename_i h0
    cases h
    rw [iD_eq h0]
   ·cases h
  ·cases h
 ·simp only [cod3,List.mem_cons,List.not_mem_nil,or_false] at h
  rcases h with rfl<;>exact ⟨_,rfl⟩
def cod4:Cod Ty 4:= { sz:=1,zero:=(false:Bool),enc:=fun m (x:Bool)=>[.v (.bool x)],dec:=fun m l=>match l with
 |[a0]=>match bD a0 with
  |some x0=>some (x0:Bool)
  |_=>none
 |_=>none }
theorem cod4_ok:CodOk cod4 true:=by
 have fl: ∀x:Bool,_:=fun x=>flips (cod4.enc true x) (cod4.enc false x) rfl (fun o a b h h'=>by
  have hlt:o<1:=get_lt h
  match o,hlt with
  |0,_=>cases h;cases h';first|exact .inl ⟨rfl,fun h=>h⟩|exact .inr ⟨_,_,rfl,rfl⟩
  )
 refine ⟨fun m x=>rfl,fun m x a h=> ?_,fun m cs x h=> ?_,fun x=>(fl x).1,fun h x=>⟨rfl,fun m a h=> ?_⟩,fun x=>(fl x).2⟩
 ·simp only [cod4,List.mem_cons,List.not_mem_nil,or_false] at h
  rcases h with rfl<;>first|exact .inl ⟨_,rfl,rfl⟩|exact .inr ⟨_,_,_,rfl,fun h=>h⟩|exact .inr ⟨_,_,_,rfl,fun h=>by cases h⟩
 ·unfold cod4 at h⊢
  simp only at h⊢
  split at h
  ·split at h
   ·rename_i h0
    cases h
    rw [bD_eq h0]
   ·cases h
  ·cases h
 ·simp only [cod4,List.mem_cons,List.not_mem_nil,or_false] at h
  rcases h with rfl<;>exact ⟨_,rfl⟩
def cod6:Cod Ty 6:= { sz:=1,zero:=(0:Int),enc:=fun m (x:Int)=>[.v (.int .u8 x)],dec:=fun m l=>match l with
 |[a0]=>match iD .u8 a0 with
  |some x0=>some (x0:Int)
  |_=>none
 |_=>none }
theorem cod6_ok:CodOk cod6 true:=by
 have fl: ∀x:Int,_:=fun x=>flips (cod6.enc true x) (cod6.enc false x) rfl (fun o a b h h'=>by
  have hlt:o<1:=get_lt h
  match o,hlt with
  |0,_=>cases h;cases h';first|exact .inl ⟨rfl,fun h=>h⟩|exact .inr ⟨_,_,rfl,rfl⟩
  )
 refine ⟨fun m x=>rfl,fun m x a h=> ?_,fun m cs x h=> ?_,fun x=>(fl x).1,fun h x=>⟨rfl,fun m a h=> ?_⟩,fun x=>(fl x).2⟩
 ·simp only [cod6,List.mem_cons,List.not_mem_nil,or_false] at h
  rcases h with rfl<;>first|exact .inl ⟨_,rfl,rfl⟩|exact .inr ⟨_,_,_,rfl,fun h=>h⟩|exact .inr ⟨_,_,_,rfl,fun h=>by cases h⟩
 ·unfold cod6 at h⊢
  simp only at h⊢
  split at h
  ·split at h
   ·rename_i h0
    cases h
    rw [iD_eq h0]
   ·cases h
  ·cases h
 ·simp only [cod6,List.mem_cons,List.not_mem_nil,or_false] at h
  rcases h with rfl<;>exact ⟨_,rfl⟩
def cod9:Cod Ty 9:= { sz:=1,zero:=(ByteArray.empty:ByteArray),enc:=fun m (x:ByteArray)=>[.v (.string x)],dec:=fun m l=>match l with
 |[a0]=>match sD a0 with
  |some x0=>some (x0:ByteArray)
  |_=>none
 |_=>none }
theorem cod9_ok:CodOk cod9 true:=by
 have fl: ∀x:ByteArray,_:=fun x=>flips (cod9.enc true x) (cod9.enc false x) rfl (fun o a b h h'=>by
  have hlt:o<1:=get_lt h
  match o,hlt with
  |0,_=>cases h;cases h';first|exact .inl ⟨rfl,fun h=>h⟩|exact .inr ⟨_,_,rfl,rfl⟩
  )
 refine ⟨fun m x=>rfl,fun m x a h=> ?_,fun m cs x h=> ?_,fun x=>(fl x).1,fun h x=>⟨rfl,fun m a h=> ?_⟩,fun x=>(fl x).2⟩
 ·simp only [cod9,List.mem_cons,List.not_mem_nil,or_false] at h
  rcases h with rfl<;>first|exact .inl ⟨_,rfl,rfl⟩|exact .inr ⟨_,_,_,rfl,fun h=>h⟩|exact .inr ⟨_,_,_,rfl,fun h=>by cases h⟩
 ·unfold cod9 at h⊢
  simp only at h⊢
  split at h
  ·split at h
   ·rename_i h0
    cases h
    rw [sD_eq h0]
   ·cases h
  ·cases h
 ·simp only [cod9,List.mem_cons,List.not_mem_nil,or_false] at h
  rcases h with rfl<;>exact ⟨_,rfl⟩
def cod22:Cod Ty 22:= { sz:=1,zero:=([]:(List Extern)),enc:=fun m (x:(List Extern))=>[.sl m 91 x],dec:=fun m l=>match l with
 |[a0]=>match slD m 91 a0 with
  |some x0=>some (x0:(List Extern))
  |_=>none
 |_=>none }
theorem cod22_ok:CodOk cod22 false:=by
 have fl: ∀x:(List Extern),_:=fun x=>flips (cod22.enc true x) (cod22.enc false x) rfl (fun o a b h h'=>by
  have hlt:o<1:=get_lt h
  match o,hlt with
  |0,_=>cases h;cases h';first|exact .inl ⟨rfl,fun h=>h⟩|exact .inr ⟨_,_,rfl,rfl⟩
  )
 refine ⟨fun m x=>rfl,fun m x a h=> ?_,fun m cs x h=> ?_,fun x=>(fl x).1,fun h x=>(by cases h),fun x=>(fl x).2⟩
 ·simp only [cod22,List.mem_cons,List.not_mem_nil,or_false] at h
  rcases h with rfl<;>first|exact .inl ⟨_,rfl,rfl⟩|exact .inr ⟨_,_,_,rfl,fun h=>h⟩|exact .inr ⟨_,_,_,rfl,fun h=>by cases h⟩
 ·unfold cod22 at h⊢
  simp only at h⊢
  split at h
  ·split at h
   ·rename_i h0
    cases h
    rw [slD_eq h0]
   ·cases h
  ·cases h
def cod23:Cod Ty 23:= { sz:=1,zero:=([]:(List Global)),enc:=fun m (x:(List Global))=>[.sl m 94 x],dec:=fun m l=>match l with
 |[a0]=>match slD m 94 a0 with
  |some x0=>some (x0:(List Global))
  |_=>none
 |_=>none }
theorem cod23_ok:CodOk cod23 false:=by
 have fl: ∀x:(List Global),_:=fun x=>flips (cod23.enc true x) (cod23.enc false x) rfl (fun o a b h h'=>by
  have hlt:o<1:=get_lt h
  match o,hlt with
  |0,_=>cases h;cases h';first|exact .inl ⟨rfl,fun h=>h⟩|exact .inr ⟨_,_,rfl,rfl⟩
  )
 refine ⟨fun m x=>rfl,fun m x a h=> ?_,fun m cs x h=> ?_,fun x=>(fl x).1,fun h x=>(by cases h),fun x=>(fl x).2⟩
 ·simp only [cod23,List.mem_cons,List.not_mem_nil,or_false] at h
  rcases h with rfl<;>first|exact .inl ⟨_,rfl,rfl⟩|exact .inr ⟨_,_,_,rfl,fun h=>h⟩|exact .inr ⟨_,_,_,rfl,fun h=>by cases h⟩
 ·unfold cod23 at h⊢
  simp only at h⊢
  split at h
  ·split at h
   ·rename_i h0
    cases h
    rw [slD_eq h0]
   ·cases h
  ·cases h
def cod24:Cod Ty 24:= { sz:=1,zero:=([]:(List Table)),enc:=fun m (x:(List Table))=>[.sl m 96 x],dec:=fun m l=>match l with
 |[a0]=>match slD m 96 a0 with
  |some x0=>some (x0:(List Table))
  |_=>none
 |_=>none }
theorem cod24_ok:CodOk cod24 false:=by
 have fl: ∀x:(List Table),_:=fun x=>flips (cod24.enc true x) (cod24.enc false x) rfl (fun o a b h h'=>by
  have hlt:o<1:=get_lt h
  match o,hlt with
  |0,_=>cases h;cases h';first|exact .inl ⟨rfl,fun h=>h⟩|exact .inr ⟨_,_,rfl,rfl⟩
  )
 refine ⟨fun m x=>rfl,fun m x a h=> ?_,fun m cs x h=> ?_,fun x=>(fl x).1,fun h x=>(by cases h),fun x=>(fl x).2⟩
 ·simp only [cod24,List.mem_cons,List.not_mem_nil,or_false] at h
  rcases h with rfl<;>first|exact .inl ⟨_,rfl,rfl⟩|exact .inr ⟨_,_,_,rfl,fun h=>h⟩|exact .inr ⟨_,_,_,rfl,fun h=>by cases h⟩
 ·unfold cod24 at h⊢
  simp only at h⊢
  split at h
  ·split at h
   ·rename_i h0
    cases h
    rw [slD_eq h0]
   ·cases h
  ·cases h
def cod25:Cod Ty 25:= { sz:=1,zero:=([]:(List Func)),enc:=fun m (x:(List Func))=>[.sl m 33 x],dec:=fun m l=>match l with
 |[a0]=>match slD m 33 a0 with
  |some x0=>some (x0:(List Func))
  |_=>none
 |_=>none }
theorem cod25_ok:CodOk cod25 false:=by
 have fl: ∀x:(List Func),_:=fun x=>flips (cod25.enc true x) (cod25.enc false x) rfl (fun o a b h h'=>by
  have hlt:o<1:=get_lt h
  match o,hlt with
  |0,_=>cases h;cases h';first|exact .inl ⟨rfl,fun h=>h⟩|exact .inr ⟨_,_,rfl,rfl⟩
  )
 refine ⟨fun m x=>rfl,fun m x a h=> ?_,fun m cs x h=> ?_,fun x=>(fl x).1,fun h x=>(by cases h),fun x=>(fl x).2⟩
 ·simp only [cod25,List.mem_cons,List.not_mem_nil,or_false] at h
  rcases h with rfl<;>first|exact .inl ⟨_,rfl,rfl⟩|exact .inr ⟨_,_,_,rfl,fun h=>h⟩|exact .inr ⟨_,_,_,rfl,fun h=>by cases h⟩
 ·unfold cod25 at h⊢
  simp only at h⊢
  split at h
  ·split at h
   ·rename_i h0
    cases h
    rw [slD_eq h0]
   ·cases h
  ·cases h
def cod27:Cod Ty 27:= { sz:=4,zero:=(⟨[],[],[],[]⟩:Module),enc:=fun m (x:Module)=>[.sl m 91 x.externs, .sl m 94 x.globals, .sl m 96 x.tables, .sl m 33 x.funcs],dec:=fun m l=>match l with
 |[a0,a1,a2,a3]=>match slD m 91 a0,slD m 94 a1,slD m 96 a2,slD m 33 a3 with
  |some x0,some x1,some x2,some x3=>some (⟨x0,x1,x2,x3⟩:Module)
  |_,_,_,_=>none
 |_=>none }
theorem cod27_ok:CodOk cod27 false:=by
 have fl: ∀x:Module,_:=fun x=>flips (cod27.enc true x) (cod27.enc false x) rfl (fun o a b h h'=>by
  have hlt:o<4:=get_lt h
  match o,hlt with
  |0,_=>cases h;cases h';first|exact .inl ⟨rfl,fun h=>h⟩|exact .inr ⟨_,_,rfl,rfl⟩
  |1,_=>cases h;cases h';first|exact .inl ⟨rfl,fun h=>h⟩|exact .inr ⟨_,_,rfl,rfl⟩
  |2,_=>cases h;cases h';first|exact .inl ⟨rfl,fun h=>h⟩|exact .inr ⟨_,_,rfl,rfl⟩
  |3,_=>cases h;cases h';first|exact .inl ⟨rfl,fun h=>h⟩|exact .inr ⟨_,_,rfl,rfl⟩
  )
 refine ⟨fun m x=>rfl,fun m x a h=> ?_,fun m cs x h=> ?_,fun x=>(fl x).1,fun h x=>(by cases h),fun x=>(fl x).2⟩
 ·simp only [cod27,List.mem_cons,List.not_mem_nil,or_false] at h
  rcases h with rfl|rfl|rfl|rfl<;>first|exact .inl ⟨_,rfl,rfl⟩|exact .inr ⟨_,_,_,rfl,fun h=>h⟩|exact .inr ⟨_,_,_,rfl,fun h=>by cases h⟩
 ·unfold cod27 at h⊢
  simp only at h⊢
  split at h
  ·split at h
   ·rename_i h0 h1 h2 h3
    cases h
    rw [slD_eq h0,slD_eq h1,slD_eq h2,slD_eq h3]
   ·cases h
  ·cases h
def cod30:Cod Ty 30:= { sz:=1,zero:=([]:(List Int)),enc:=fun m (x:(List Int))=>[.sl m 3 x],dec:=fun m l=>match l with
 |[a0]=>match slD m 3 a0 with
  |some x0=>some (x0:(List Int))
  |_=>none
 |_=>none }
theorem cod30_ok:CodOk cod30 false:=by
 have fl: ∀x:(List Int),_:=fun x=>flips (cod30.enc true x) (cod30.enc false x) rfl (fun o a b h h'=>by
  have hlt:o<1:=get_lt h
  match o,hlt with
  |0,_=>cases h;cases h';first|exact .inl ⟨rfl,fun h=>h⟩|exact .inr ⟨_,_,rfl,rfl⟩
  )
 refine ⟨fun m x=>rfl,fun m x a h=> ?_,fun m cs x h=> ?_,fun x=>(fl x).1,fun h x=>(by cases h),fun x=>(fl x).2⟩
 ·simp only [cod30,List.mem_cons,List.not_mem_nil,or_false] at h
  rcases h with rfl<;>first|exact .inl ⟨_,rfl,rfl⟩|exact .inr ⟨_,_,_,rfl,fun h=>h⟩|exact .inr ⟨_,_,_,rfl,fun h=>by cases h⟩
 ·unfold cod30 at h⊢
  simp only at h⊢
  split at h
  ·split at h
   ·rename_i h0
    cases h
    rw [slD_eq h0]
   ·cases h
  ·cases h
def cod31:Cod Ty 31:= { sz:=1,zero:=([]:(List Block)),enc:=fun m (x:(List Block))=>[.sl m 44 x],dec:=fun m l=>match l with
 |[a0]=>match slD m 44 a0 with
  |some x0=>some (x0:(List Block))
  |_=>none
 |_=>none }
theorem cod31_ok:CodOk cod31 false:=by
 have fl: ∀x:(List Block),_:=fun x=>flips (cod31.enc true x) (cod31.enc false x) rfl (fun o a b h h'=>by
  have hlt:o<1:=get_lt h
  match o,hlt with
  |0,_=>cases h;cases h';first|exact .inl ⟨rfl,fun h=>h⟩|exact .inr ⟨_,_,rfl,rfl⟩
  )
 refine ⟨fun m x=>rfl,fun m x a h=> ?_,fun m cs x h=> ?_,fun x=>(fl x).1,fun h x=>(by cases h),fun x=>(fl x).2⟩
 ·simp only [cod31,List.mem_cons,List.not_mem_nil,or_false] at h
  rcases h with rfl<;>first|exact .inl ⟨_,rfl,rfl⟩|exact .inr ⟨_,_,_,rfl,fun h=>h⟩|exact .inr ⟨_,_,_,rfl,fun h=>by cases h⟩
 ·unfold cod31 at h⊢
  simp only at h⊢
  split at h
  ·split at h
   ·rename_i h0
    cases h
    rw [slD_eq h0]
   ·cases h
  ·cases h
def cod33:Cod Ty 33:= { sz:=5,zero:=(⟨ByteArray.empty,false,[],0,[]⟩:Func),enc:=fun m (x:Func)=>[.v (.string x.name), .v (.bool x.out), .sl m 3 x.params, .v (.int .i64 x.result), .sl m 44 x.blocks],dec:=fun m l=>match l with
 |[a0,a1,a2,a3,a4]=>match sD a0,bD a1,slD m 3 a2,iD .i64 a3,slD m 44 a4 with
  |some x0,some x1,some x2,some x3,some x4=>some (⟨x0,x1,x2,x3,x4⟩:Func)
  |_,_,_,_,_=>none
 |_=>none }
theorem cod33_ok:CodOk cod33 false:=by
 have fl: ∀x:Func,_:=fun x=>flips (cod33.enc true x) (cod33.enc false x) rfl (fun o a b h h'=>by
  have hlt:o<5:=get_lt h
  match o,hlt with
  |0,_=>cases h;cases h';first|exact .inl ⟨rfl,fun h=>h⟩|exact .inr ⟨_,_,rfl,rfl⟩
  |1,_=>cases h;cases h';first|exact .inl ⟨rfl,fun h=>h⟩|exact .inr ⟨_,_,rfl,rfl⟩
  |2,_=>cases h;cases h';first|exact .inl ⟨rfl,fun h=>h⟩|exact .inr ⟨_,_,rfl,rfl⟩
  |3,_=>cases h;cases h';first|exact .inl ⟨rfl,fun h=>h⟩|exact .inr ⟨_,_,rfl,rfl⟩
  |4,_=>cases h;cases h';first|exact .inl ⟨rfl,fun h=>h⟩|exact .inr ⟨_,_,rfl,rfl⟩
  )
 refine ⟨fun m x=>rfl,fun m x a h=> ?_,fun m cs x h=> ?_,fun x=>(fl x).1,fun h x=>(by cases h),fun x=>(fl x).2⟩
 ·simp only [cod33,List.mem_cons,List.not_mem_nil,or_false] at h
  rcases h with rfl|rfl|rfl|rfl|rfl<;>first|exact .inl ⟨_,rfl,rfl⟩|exact .inr ⟨_,_,_,rfl,fun h=>h⟩|exact .inr ⟨_,_,_,rfl,fun h=>by cases h⟩
 ·unfold cod33 at h⊢
  simp only at h⊢
  split at h
  ·split at h
   ·rename_i h0 h1 h2 h3 h4
    cases h
    rw [sD_eq h0,bD_eq h1,slD_eq h2,iD_eq h3,slD_eq h4]
   ·cases h
  ·cases h
def cod42:Cod Ty 42:= { sz:=1,zero:=([]:(List Ins)),enc:=fun m (x:(List Ins))=>[.sl m 46 x],dec:=fun m l=>match l with
 |[a0]=>match slD m 46 a0 with
  |some x0=>some (x0:(List Ins))
  |_=>none
 |_=>none }
theorem cod42_ok:CodOk cod42 false:=by
 have fl: ∀x:(List Ins),_:=fun x=>flips (cod42.enc true x) (cod42.enc false x) rfl (fun o a b h h'=>by
  have hlt:o<1:=get_lt h
  match o,hlt with
  |0,_=>cases h;cases h';first|exact .inl ⟨rfl,fun h=>h⟩|exact .inr ⟨_,_,rfl,rfl⟩
  )
 refine ⟨fun m x=>rfl,fun m x a h=> ?_,fun m cs x h=> ?_,fun x=>(fl x).1,fun h x=>(by cases h),fun x=>(fl x).2⟩
 ·simp only [cod42,List.mem_cons,List.not_mem_nil,or_false] at h
  rcases h with rfl<;>first|exact .inl ⟨_,rfl,rfl⟩|exact .inr ⟨_,_,_,rfl,fun h=>h⟩|exact .inr ⟨_,_,_,rfl,fun h=>by cases h⟩
 ·unfold cod42 at h⊢
  simp only at h⊢
  split at h
  ·split at h
   ·rename_i h0
    cases h
    rw [slD_eq h0]
   ·cases h
  ·cases h
def cod44:Cod Ty 44:= { sz:=1,zero:=(⟨[]⟩:Block),enc:=fun m (x:Block)=>[.sl m 46 x.ins],dec:=fun m l=>match l with
 |[a0]=>match slD m 46 a0 with
  |some x0=>some (⟨x0⟩:Block)
  |_=>none
 |_=>none }
theorem cod44_ok:CodOk cod44 false:=by
 have fl: ∀x:Block,_:=fun x=>flips (cod44.enc true x) (cod44.enc false x) rfl (fun o a b h h'=>by
  have hlt:o<1:=get_lt h
  match o,hlt with
  |0,_=>cases h;cases h';first|exact .inl ⟨rfl,fun h=>h⟩|exact .inr ⟨_,_,rfl,rfl⟩
  )
 refine ⟨fun m x=>rfl,fun m x a h=> ?_,fun m cs x h=> ?_,fun x=>(fl x).1,fun h x=>(by cases h),fun x=>(fl x).2⟩
 ·simp only [cod44,List.mem_cons,List.not_mem_nil,or_false] at h
  rcases h with rfl<;>first|exact .inl ⟨_,rfl,rfl⟩|exact .inr ⟨_,_,_,rfl,fun h=>h⟩|exact .inr ⟨_,_,_,rfl,fun h=>by cases h⟩
 ·unfold cod44 at h⊢
  simp only at h⊢
  split at h
  ·split at h
   ·rename_i h0
    cases h
    rw [slD_eq h0]
   ·cases h
  ·cases h
def cod46:Cod Ty 46:= { sz:=7,zero:=(⟨0,0,0,0,0,[],[]⟩:Ins),enc:=fun m (x:Ins)=>[.v (.int .i64 x.op), .v (.int .i64 x.type_), .v (.int .i64 x.to_), .v (.int .i64 x.sym_), .v (.int .i64 x.num), .sl m 3 x.args, .sl m 3 x.into],dec:=fun m l=>match l with
 |[a0,a1,a2,a3,a4,a5,a6]=>match iD .i64 a0,iD .i64 a1,iD .i64 a2,iD .i64 a3,iD .i64 a4,slD m 3 a5,slD m 3 a6 with
  |some x0,some x1,some x2,some x3,some x4,some x5,some x6=>some (⟨x0,x1,x2,x3,x4,x5,x6⟩:Ins)
  |_,_,_,_,_,_,_=>none
 |_=>none }
theorem cod46_ok:CodOk cod46 false:=by
 have fl: ∀x:Ins,_:=fun x=>flips (cod46.enc true x) (cod46.enc false x) rfl (fun o a b h h'=>by
  have hlt:o<7:=get_lt h
  match o,hlt with
  |0,_=>cases h;cases h';first|exact .inl ⟨rfl,fun h=>h⟩|exact .inr ⟨_,_,rfl,rfl⟩
  |1,_=>cases h;cases h';first|exact .inl ⟨rfl,fun h=>h⟩|exact .inr ⟨_,_,rfl,rfl⟩
  |2,_=>cases h;cases h';first|exact .inl ⟨rfl,fun h=>h⟩|exact .inr ⟨_,_,rfl,rfl⟩
  |3,_=>cases h;cases h';first|exact .inl ⟨rfl,fun h=>h⟩|exact .inr ⟨_,_,rfl,rfl⟩
  |4,_=>cases h;cases h';first|exact .inl ⟨rfl,fun h=>h⟩|exact .inr ⟨_,_,rfl,rfl⟩
  |5,_=>cases h;cases h';first|exact .inl ⟨rfl,fun h=>h⟩|exact .inr ⟨_,_,rfl,rfl⟩
  |6,_=>cases h;cases h';first|exact .inl ⟨rfl,fun h=>h⟩|exact .inr ⟨_,_,rfl,rfl⟩
  )
 refine ⟨fun m x=>rfl,fun m x a h=> ?_,fun m cs x h=> ?_,fun x=>(fl x).1,fun h x=>(by cases h),fun x=>(fl x).2⟩
 ·simp only [cod46,List.mem_cons,List.not_mem_nil,or_false] at h
  rcases h with rfl|rfl|rfl|rfl|rfl|rfl|rfl<;>first|exact .inl ⟨_,rfl,rfl⟩|exact .inr ⟨_,_,_,rfl,fun h=>h⟩|exact .inr ⟨_,_,_,rfl,fun h=>by cases h⟩
 ·unfold cod46 at h⊢
  simp only at h⊢
  split at h
  ·split at h
   ·rename_i h0 h1 h2 h3 h4 h5 h6
    cases h
    rw [iD_eq h0,iD_eq h1,iD_eq h2,iD_eq h3,iD_eq h4,slD_eq h5,slD_eq h6]
   ·cases h
  ·cases h
def cod52:Cod Ty 52:= { sz:=1,zero:=([]:(List (List Int))),enc:=fun m (x:(List (List Int)))=>[.sl m 30 x],dec:=fun m l=>match l with
 |[a0]=>match slD m 30 a0 with
  |some x0=>some (x0:(List (List Int)))
  |_=>none
 |_=>none }
theorem cod52_ok:CodOk cod52 false:=by
 have fl: ∀x:(List (List Int)),_:=fun x=>flips (cod52.enc true x) (cod52.enc false x) rfl (fun o a b h h'=>by
  have hlt:o<1:=get_lt h
  match o,hlt with
  |0,_=>cases h;cases h';first|exact .inl ⟨rfl,fun h=>h⟩|exact .inr ⟨_,_,rfl,rfl⟩
  )
 refine ⟨fun m x=>rfl,fun m x a h=> ?_,fun m cs x h=> ?_,fun x=>(fl x).1,fun h x=>(by cases h),fun x=>(fl x).2⟩
 ·simp only [cod52,List.mem_cons,List.not_mem_nil,or_false] at h
  rcases h with rfl<;>first|exact .inl ⟨_,rfl,rfl⟩|exact .inr ⟨_,_,_,rfl,fun h=>h⟩|exact .inr ⟨_,_,_,rfl,fun h=>by cases h⟩
 ·unfold cod52 at h⊢
  simp only at h⊢
  split at h
  ·split at h
   ·rename_i h0
    cases h
    rw [slD_eq h0]
   ·cases h
  ·cases h
def cod71:Cod Ty 71:= { sz:=1,zero:=([]:(List Bool)),enc:=fun m (x:(List Bool))=>[.sl m 4 x],dec:=fun m l=>match l with
 |[a0]=>match slD m 4 a0 with
  |some x0=>some (x0:(List Bool))
  |_=>none
 |_=>none }
theorem cod71_ok:CodOk cod71 false:=by
 have fl: ∀x:(List Bool),_:=fun x=>flips (cod71.enc true x) (cod71.enc false x) rfl (fun o a b h h'=>by
  have hlt:o<1:=get_lt h
  match o,hlt with
  |0,_=>cases h;cases h';first|exact .inl ⟨rfl,fun h=>h⟩|exact .inr ⟨_,_,rfl,rfl⟩
  )
 refine ⟨fun m x=>rfl,fun m x a h=> ?_,fun m cs x h=> ?_,fun x=>(fl x).1,fun h x=>(by cases h),fun x=>(fl x).2⟩
 ·simp only [cod71,List.mem_cons,List.not_mem_nil,or_false] at h
  rcases h with rfl<;>first|exact .inl ⟨_,rfl,rfl⟩|exact .inr ⟨_,_,_,rfl,fun h=>h⟩|exact .inr ⟨_,_,_,rfl,fun h=>by cases h⟩
 ·unfold cod71 at h⊢
  simp only at h⊢
  split at h
  ·split at h
   ·rename_i h0
    cases h
    rw [slD_eq h0]
   ·cases h
  ·cases h
def cod91:Cod Ty 91:= { sz:=3,zero:=(⟨ByteArray.empty,[],0⟩:Extern),enc:=fun m (x:Extern)=>[.v (.string x.name), .sl m 3 x.params, .v (.int .i64 x.result)],dec:=fun m l=>match l with
 |[a0,a1,a2]=>match sD a0,slD m 3 a1,iD .i64 a2 with
  |some x0,some x1,some x2=>some (⟨x0,x1,x2⟩:Extern)
  |_,_,_=>none
 |_=>none }
theorem cod91_ok:CodOk cod91 false:=by
 have fl: ∀x:Extern,_:=fun x=>flips (cod91.enc true x) (cod91.enc false x) rfl (fun o a b h h'=>by
  have hlt:o<3:=get_lt h
  match o,hlt with
  |0,_=>cases h;cases h';first|exact .inl ⟨rfl,fun h=>h⟩|exact .inr ⟨_,_,rfl,rfl⟩
  |1,_=>cases h;cases h';first|exact .inl ⟨rfl,fun h=>h⟩|exact .inr ⟨_,_,rfl,rfl⟩
  |2,_=>cases h;cases h';first|exact .inl ⟨rfl,fun h=>h⟩|exact .inr ⟨_,_,rfl,rfl⟩
  )
 refine ⟨fun m x=>rfl,fun m x a h=> ?_,fun m cs x h=> ?_,fun x=>(fl x).1,fun h x=>(by cases h),fun x=>(fl x).2⟩
 ·simp only [cod91,List.mem_cons,List.not_mem_nil,or_false] at h
  rcases h with rfl|rfl|rfl<;>first|exact .inl ⟨_,rfl,rfl⟩|exact .inr ⟨_,_,_,rfl,fun h=>h⟩|exact .inr ⟨_,_,_,rfl,fun h=>by cases h⟩
 ·unfold cod91 at h⊢
  simp only at h⊢
  split at h
  ·split at h
   ·rename_i h0 h1 h2
    cases h
    rw [sD_eq h0,slD_eq h1,iD_eq h2]
   ·cases h
  ·cases h
def cod92:Cod Ty 92:= { sz:=1,zero:=([]:(List Int)),enc:=fun m (x:(List Int))=>[.sl m 2 x],dec:=fun m l=>match l with
 |[a0]=>match slD m 2 a0 with
  |some x0=>some (x0:(List Int))
  |_=>none
 |_=>none }
theorem cod92_ok:CodOk cod92 false:=by
 have fl: ∀x:(List Int),_:=fun x=>flips (cod92.enc true x) (cod92.enc false x) rfl (fun o a b h h'=>by
  have hlt:o<1:=get_lt h
  match o,hlt with
  |0,_=>cases h;cases h';first|exact .inl ⟨rfl,fun h=>h⟩|exact .inr ⟨_,_,rfl,rfl⟩
  )
 refine ⟨fun m x=>rfl,fun m x a h=> ?_,fun m cs x h=> ?_,fun x=>(fl x).1,fun h x=>(by cases h),fun x=>(fl x).2⟩
 ·simp only [cod92,List.mem_cons,List.not_mem_nil,or_false] at h
  rcases h with rfl<;>first|exact .inl ⟨_,rfl,rfl⟩|exact .inr ⟨_,_,_,rfl,fun h=>h⟩|exact .inr ⟨_,_,_,rfl,fun h=>by cases h⟩
 ·unfold cod92 at h⊢
  simp only at h⊢
  split at h
  ·split at h
   ·rename_i h0
    cases h
    rw [slD_eq h0]
   ·cases h
  ·cases h
def cod94:Cod Ty 94:= { sz:=2,zero:=(⟨ByteArray.empty,[]⟩:Global),enc:=fun m (x:Global)=>[.v (.string x.name), .sl m 2 x.cells],dec:=fun m l=>match l with
 |[a0,a1]=>match sD a0,slD m 2 a1 with
  |some x0,some x1=>some (⟨x0,x1⟩:Global)
  |_,_=>none
 |_=>none }
theorem cod94_ok:CodOk cod94 false:=by
 have fl: ∀x:Global,_:=fun x=>flips (cod94.enc true x) (cod94.enc false x) rfl (fun o a b h h'=>by
  have hlt:o<2:=get_lt h
  match o,hlt with
  |0,_=>cases h;cases h';first|exact .inl ⟨rfl,fun h=>h⟩|exact .inr ⟨_,_,rfl,rfl⟩
  |1,_=>cases h;cases h';first|exact .inl ⟨rfl,fun h=>h⟩|exact .inr ⟨_,_,rfl,rfl⟩
  )
 refine ⟨fun m x=>rfl,fun m x a h=> ?_,fun m cs x h=> ?_,fun x=>(fl x).1,fun h x=>(by cases h),fun x=>(fl x).2⟩
 ·simp only [cod94,List.mem_cons,List.not_mem_nil,or_false] at h
  rcases h with rfl|rfl<;>first|exact .inl ⟨_,rfl,rfl⟩|exact .inr ⟨_,_,_,rfl,fun h=>h⟩|exact .inr ⟨_,_,_,rfl,fun h=>by cases h⟩
 ·unfold cod94 at h⊢
  simp only at h⊢
  split at h
  ·split at h
   ·rename_i h0 h1
    cases h
    rw [sD_eq h0,slD_eq h1]
   ·cases h
  ·cases h
def cod96:Cod Ty 96:= { sz:=2,zero:=(⟨ByteArray.empty,[]⟩:Table),enc:=fun m (x:Table)=>[.v (.string x.name), .sl m 3 x.funcs],dec:=fun m l=>match l with
 |[a0,a1]=>match sD a0,slD m 3 a1 with
  |some x0,some x1=>some (⟨x0,x1⟩:Table)
  |_,_=>none
 |_=>none }
theorem cod96_ok:CodOk cod96 false:=by
 have fl: ∀x:Table,_:=fun x=>flips (cod96.enc true x) (cod96.enc false x) rfl (fun o a b h h'=>by
  have hlt:o<2:=get_lt h
  match o,hlt with
  |0,_=>cases h;cases h';first|exact .inl ⟨rfl,fun h=>h⟩|exact .inr ⟨_,_,rfl,rfl⟩
  |1,_=>cases h;cases h';first|exact .inl ⟨rfl,fun h=>h⟩|exact .inr ⟨_,_,rfl,rfl⟩
  )
 refine ⟨fun m x=>rfl,fun m x a h=> ?_,fun m cs x h=> ?_,fun x=>(fl x).1,fun h x=>(by cases h),fun x=>(fl x).2⟩
 ·simp only [cod96,List.mem_cons,List.not_mem_nil,or_false] at h
  rcases h with rfl|rfl<;>first|exact .inl ⟨_,rfl,rfl⟩|exact .inr ⟨_,_,_,rfl,fun h=>h⟩|exact .inr ⟨_,_,_,rfl,fun h=>by cases h⟩
 ·unfold cod96 at h⊢
  simp only at h⊢
  split at h
  ·split at h
   ·rename_i h0 h1
    cases h
    rw [sD_eq h0,slD_eq h1]
   ·cases h
  ·cases h
def cod101:Cod Ty 101:= { sz:=1,zero:=([]:(List (List Bool))),enc:=fun m (x:(List (List Bool)))=>[.sl m 71 x],dec:=fun m l=>match l with
 |[a0]=>match slD m 71 a0 with
  |some x0=>some (x0:(List (List Bool)))
  |_=>none
 |_=>none }
theorem cod101_ok:CodOk cod101 false:=by
 have fl: ∀x:(List (List Bool)),_:=fun x=>flips (cod101.enc true x) (cod101.enc false x) rfl (fun o a b h h'=>by
  have hlt:o<1:=get_lt h
  match o,hlt with
  |0,_=>cases h;cases h';first|exact .inl ⟨rfl,fun h=>h⟩|exact .inr ⟨_,_,rfl,rfl⟩
  )
 refine ⟨fun m x=>rfl,fun m x a h=> ?_,fun m cs x h=> ?_,fun x=>(fl x).1,fun h x=>(by cases h),fun x=>(fl x).2⟩
 ·simp only [cod101,List.mem_cons,List.not_mem_nil,or_false] at h
  rcases h with rfl<;>first|exact .inl ⟨_,rfl,rfl⟩|exact .inr ⟨_,_,_,rfl,fun h=>h⟩|exact .inr ⟨_,_,_,rfl,fun h=>by cases h⟩
 ·unfold cod101 at h⊢
  simp only at h⊢
  split at h
  ·split at h
   ·rename_i h0
    cases h
    rw [slD_eq h0]
   ·cases h
  ·cases h
def cod162:Cod Ty 162:= { sz:=2,zero:=(⟨0,0⟩:S162),enc:=fun m (x:S162)=>[.v (.int .i64 x.a0), .v (.int .i64 x.a1)],dec:=fun m l=>match l with
 |[a0,a1]=>match iD .i64 a0,iD .i64 a1 with
  |some x0,some x1=>some (⟨x0,x1⟩:S162)
  |_,_=>none
 |_=>none }
theorem cod162_ok:CodOk cod162 true:=by
 have fl: ∀x:S162,_:=fun x=>flips (cod162.enc true x) (cod162.enc false x) rfl (fun o a b h h'=>by
  have hlt:o<2:=get_lt h
  match o,hlt with
  |0,_=>cases h;cases h';first|exact .inl ⟨rfl,fun h=>h⟩|exact .inr ⟨_,_,rfl,rfl⟩
  |1,_=>cases h;cases h';first|exact .inl ⟨rfl,fun h=>h⟩|exact .inr ⟨_,_,rfl,rfl⟩
  )
 refine ⟨fun m x=>rfl,fun m x a h=> ?_,fun m cs x h=> ?_,fun x=>(fl x).1,fun h x=>⟨rfl,fun m a h=> ?_⟩,fun x=>(fl x).2⟩
 ·simp only [cod162,List.mem_cons,List.not_mem_nil,or_false] at h
  rcases h with rfl|rfl<;>first|exact .inl ⟨_,rfl,rfl⟩|exact .inr ⟨_,_,_,rfl,fun h=>h⟩|exact .inr ⟨_,_,_,rfl,fun h=>by cases h⟩
 ·unfold cod162 at h⊢
  simp only at h⊢
  split at h
  ·split at h
   ·rename_i h0 h1
    cases h
    rw [iD_eq h0,iD_eq h1]
   ·cases h
  ·cases h
 ·simp only [cod162,List.mem_cons,List.not_mem_nil,or_false] at h
  rcases h with rfl|rfl<;>exact ⟨_,rfl⟩
def slF (m:Bool) (t:Nat):AV Ty→Option (Bool×List (Ty t))
 | .sl b t' xs=>match m || !b with
  |true=>match castL t' t xs with
   |some ys=>some (b,ys)
   |none=>none
  |false=>none
 |_=>none
theorem slF_eq {m:Bool} {t:Nat} {a:AV Ty} {q:Bool} {xs:List (Ty t)} (h:slF m t a=some (q,xs)):a= .sl (m && q) t xs:=by
 unfold slF at h
 split at h
 ·rename_i b t' zs
  split at h
  ·rename_i e
   split at h
   ·rename_i ys hc
    cases h
    obtain ⟨e1,e2⟩:=castL_eq hc
    subst e1
    rw [e2]
    cases m<;>cases q<;>first|rfl|cases e
   ·cases h
  ·cases h
 ·cases h
def cod1033:Cod Ty 1033:= { sz:=5,zero:=(⟨⟨ByteArray.empty,false,[],0,[]⟩,true,true⟩:FFunc),enc:=fun m (x:FFunc)=>[.v (.string x.x.name), .v (.bool x.x.out), .sl (m && x.q0) 3 x.x.params, .v (.int .i64 x.x.result), .sl (m && x.q1) 44 x.x.blocks],dec:=fun m l=>match l with
 |[a0,a1,a2,a3,a4]=>match sD a0,bD a1,slF m 3 a2,iD .i64 a3,slF m 44 a4 with
  |some x0,some x1,some (q0,x2),some x3,some (q1,x4)=>some (⟨⟨x0,x1,x2,x3,x4⟩,q0,q1⟩:FFunc)
  |_,_,_,_,_=>none
 |_=>none }
theorem cod1033_ok:CodOk cod1033 false:=by
 have fl: ∀x:FFunc,_:=fun x=>flips (cod1033.enc true x) (cod1033.enc false x) rfl (fun o a b h h'=>by
  obtain ⟨x,q0,q1⟩:=x
  have hlt:o<5:=get_lt h
  match o,hlt with
  |0,_=>cases h;cases h';exact .inl ⟨rfl,fun h=>h⟩
  |1,_=>cases h;cases h';exact .inl ⟨rfl,fun h=>h⟩
  |2,_=>cases h;cases h';cases q0;exact .inl ⟨rfl,fun h=>h⟩;exact .inr ⟨_,_,rfl,rfl⟩
  |3,_=>cases h;cases h';exact .inl ⟨rfl,fun h=>h⟩
  |4,_=>cases h;cases h';cases q1;exact .inl ⟨rfl,fun h=>h⟩;exact .inr ⟨_,_,rfl,rfl⟩
  )
 refine ⟨fun m x=>rfl,fun m x a h=> ?_,fun m cs x h=> ?_,fun x=>(fl x).1,fun h x=>(by cases h),fun x=>(fl x).2⟩
 ·simp only [cod1033,List.mem_cons,List.not_mem_nil,or_false] at h
  rcases h with rfl|rfl|rfl|rfl|rfl<;>first|exact .inl ⟨_,rfl,rfl⟩|exact .inr ⟨_,_,_,rfl,fun h=>(Bool.and_eq_true _ _▸h:_∧_).1⟩
 ·unfold cod1033 at h⊢
  simp only at h⊢
  split at h
  ·split at h
   ·rename_i h0 h1 h2 h3 h4
    cases h
    rw [sD_eq h0,bD_eq h1,slF_eq h2,iD_eq h3,slF_eq h4]
   ·cases h
  ·cases h
def cod1046:Cod Ty 1046:= { sz:=7,zero:=(⟨⟨0,0,0,0,0,[],[]⟩,true,true⟩:FIns),enc:=fun m (x:FIns)=>[.v (.int .i64 x.x.op), .v (.int .i64 x.x.type_), .v (.int .i64 x.x.to_), .v (.int .i64 x.x.sym_), .v (.int .i64 x.x.num), .sl (m && x.q0) 3 x.x.args, .sl (m && x.q1) 3 x.x.into],dec:=fun m l=>match l with
 |[a0,a1,a2,a3,a4,a5,a6]=>match iD .i64 a0,iD .i64 a1,iD .i64 a2,iD .i64 a3,iD .i64 a4,slF m 3 a5,slF m 3 a6 with
  |some x0,some x1,some x2,some x3,some x4,some (q0,x5),some (q1,x6)=>some (⟨⟨x0,x1,x2,x3,x4,x5,x6⟩,q0,q1⟩:FIns)
  |_,_,_,_,_,_,_=>none
 |_=>none }
theorem cod1046_ok:CodOk cod1046 false:=by
 have fl: ∀x:FIns,_:=fun x=>flips (cod1046.enc true x) (cod1046.enc false x) rfl (fun o a b h h'=>by
  obtain ⟨x,q0,q1⟩:=x
  have hlt:o<7:=get_lt h
  match o,hlt with
  |0,_=>cases h;cases h';exact .inl ⟨rfl,fun h=>h⟩
  |1,_=>cases h;cases h';exact .inl ⟨rfl,fun h=>h⟩
  |2,_=>cases h;cases h';exact .inl ⟨rfl,fun h=>h⟩
  |3,_=>cases h;cases h';exact .inl ⟨rfl,fun h=>h⟩
  |4,_=>cases h;cases h';exact .inl ⟨rfl,fun h=>h⟩
  |5,_=>cases h;cases h';cases q0;exact .inl ⟨rfl,fun h=>h⟩;exact .inr ⟨_,_,rfl,rfl⟩
  |6,_=>cases h;cases h';cases q1;exact .inl ⟨rfl,fun h=>h⟩;exact .inr ⟨_,_,rfl,rfl⟩
  )
 refine ⟨fun m x=>rfl,fun m x a h=> ?_,fun m cs x h=> ?_,fun x=>(fl x).1,fun h x=>(by cases h),fun x=>(fl x).2⟩
 ·simp only [cod1046,List.mem_cons,List.not_mem_nil,or_false] at h
  rcases h with rfl|rfl|rfl|rfl|rfl|rfl|rfl<;>first|exact .inl ⟨_,rfl,rfl⟩|exact .inr ⟨_,_,_,rfl,fun h=>(Bool.and_eq_true _ _▸h:_∧_).1⟩
 ·unfold cod1046 at h⊢
  simp only at h⊢
  split at h
  ·split at h
   ·rename_i h0 h1 h2 h3 h4 h5 h6
    cases h
    rw [iD_eq h0,iD_eq h1,iD_eq h2,iD_eq h3,iD_eq h4,slF_eq h5,slF_eq h6]
   ·cases h
  ·cases h
def cod1091:Cod Ty 1091:= { sz:=3,zero:=(⟨⟨ByteArray.empty,[],0⟩,true⟩:FExtern),enc:=fun m (x:FExtern)=>[.v (.string x.x.name), .sl (m && x.q0) 3 x.x.params, .v (.int .i64 x.x.result)],dec:=fun m l=>match l with
 |[a0,a1,a2]=>match sD a0,slF m 3 a1,iD .i64 a2 with
  |some x0,some (q0,x1),some x2=>some (⟨⟨x0,x1,x2⟩,q0⟩:FExtern)
  |_,_,_=>none
 |_=>none }
theorem cod1091_ok:CodOk cod1091 false:=by
 have fl: ∀x:FExtern,_:=fun x=>flips (cod1091.enc true x) (cod1091.enc false x) rfl (fun o a b h h'=>by
  obtain ⟨x,q0⟩:=x
  have hlt:o<3:=get_lt h
  match o,hlt with
  |0,_=>cases h;cases h';exact .inl ⟨rfl,fun h=>h⟩
  |1,_=>cases h;cases h';cases q0;exact .inl ⟨rfl,fun h=>h⟩;exact .inr ⟨_,_,rfl,rfl⟩
  |2,_=>cases h;cases h';exact .inl ⟨rfl,fun h=>h⟩
  )
 refine ⟨fun m x=>rfl,fun m x a h=> ?_,fun m cs x h=> ?_,fun x=>(fl x).1,fun h x=>(by cases h),fun x=>(fl x).2⟩
 ·simp only [cod1091,List.mem_cons,List.not_mem_nil,or_false] at h
  rcases h with rfl|rfl|rfl<;>first|exact .inl ⟨_,rfl,rfl⟩|exact .inr ⟨_,_,_,rfl,fun h=>(Bool.and_eq_true _ _▸h:_∧_).1⟩
 ·unfold cod1091 at h⊢
  simp only at h⊢
  split at h
  ·split at h
   ·rename_i h0 h1 h2
    cases h
    rw [sD_eq h0,slF_eq h1,iD_eq h2]
   ·cases h
  ·cases h
def cod1094:Cod Ty 1094:= { sz:=2,zero:=(⟨⟨ByteArray.empty,[]⟩,true⟩:FGlobal),enc:=fun m (x:FGlobal)=>[.v (.string x.x.name), .sl (m && x.q0) 2 x.x.cells],dec:=fun m l=>match l with
 |[a0,a1]=>match sD a0,slF m 2 a1 with
  |some x0,some (q0,x1)=>some (⟨⟨x0,x1⟩,q0⟩:FGlobal)
  |_,_=>none
 |_=>none }
theorem cod1094_ok:CodOk cod1094 false:=by
 have fl: ∀x:FGlobal,_:=fun x=>flips (cod1094.enc true x) (cod1094.enc false x) rfl (fun o a b h h'=>by
  obtain ⟨x,q0⟩:=x
  have hlt:o<2:=get_lt h
  match o,hlt with
  |0,_=>cases h;cases h';exact .inl ⟨rfl,fun h=>h⟩
  |1,_=>cases h;cases h';cases q0;exact .inl ⟨rfl,fun h=>h⟩;exact .inr ⟨_,_,rfl,rfl⟩
  )
 refine ⟨fun m x=>rfl,fun m x a h=> ?_,fun m cs x h=> ?_,fun x=>(fl x).1,fun h x=>(by cases h),fun x=>(fl x).2⟩
 ·simp only [cod1094,List.mem_cons,List.not_mem_nil,or_false] at h
  rcases h with rfl|rfl<;>first|exact .inl ⟨_,rfl,rfl⟩|exact .inr ⟨_,_,_,rfl,fun h=>(Bool.and_eq_true _ _▸h:_∧_).1⟩
 ·unfold cod1094 at h⊢
  simp only at h⊢
  split at h
  ·split at h
   ·rename_i h0 h1
    cases h
    rw [sD_eq h0,slF_eq h1]
   ·cases h
  ·cases h
def cod1096:Cod Ty 1096:= { sz:=2,zero:=(⟨⟨ByteArray.empty,[]⟩,true⟩:FTable),enc:=fun m (x:FTable)=>[.v (.string x.x.name), .sl (m && x.q0) 3 x.x.funcs],dec:=fun m l=>match l with
 |[a0,a1]=>match sD a0,slF m 3 a1 with
  |some x0,some (q0,x1)=>some (⟨⟨x0,x1⟩,q0⟩:FTable)
  |_,_=>none
 |_=>none }
theorem cod1096_ok:CodOk cod1096 false:=by
 have fl: ∀x:FTable,_:=fun x=>flips (cod1096.enc true x) (cod1096.enc false x) rfl (fun o a b h h'=>by
  obtain ⟨x,q0⟩:=x
  have hlt:o<2:=get_lt h
  match o,hlt with
  |0,_=>cases h;cases h';exact .inl ⟨rfl,fun h=>h⟩
  |1,_=>cases h;cases h';cases q0;exact .inl ⟨rfl,fun h=>h⟩;exact .inr ⟨_,_,rfl,rfl⟩
  )
 refine ⟨fun m x=>rfl,fun m x a h=> ?_,fun m cs x h=> ?_,fun x=>(fl x).1,fun h x=>(by cases h),fun x=>(fl x).2⟩
 ·simp only [cod1096,List.mem_cons,List.not_mem_nil,or_false] at h
  rcases h with rfl|rfl<;>first|exact .inl ⟨_,rfl,rfl⟩|exact .inr ⟨_,_,_,rfl,fun h=>(Bool.and_eq_true _ _▸h:_∧_).1⟩
 ·unfold cod1096 at h⊢
  simp only at h⊢
  split at h
  ·split at h
   ·rename_i h0 h1
    cases h
    rw [sD_eq h0,slF_eq h1]
   ·cases h
  ·cases h
def codA:(t:Nat)→Cod Ty t
 |2=>cod2
 |3=>cod3
 |4=>cod4
 |6=>cod6
 |9=>cod9
 |22=>cod22
 |23=>cod23
 |24=>cod24
 |25=>cod25
 |27=>cod27
 |30=>cod30
 |31=>cod31
 |33=>cod33
 |42=>cod42
 |44=>cod44
 |46=>cod46
 |52=>cod52
 |71=>cod71
 |91=>cod91
 |92=>cod92
 |94=>cod94
 |96=>cod96
 |101=>cod101
 |162=>cod162
 |1033=>cod1033
 |1046=>cod1046
 |1091=>cod1091
 |1094=>cod1094
 |1096=>cod1096
 |t=>codNone t
def flatA:Nat→Bool
 |2=>true
 |3=>true
 |4=>true
 |6=>true
 |9=>true
 |162=>true
 |_=>false
def soleA:Nat→Bool
 |2=>true
 |3=>true
 |4=>true
 |6=>true
 |9=>true
 |22=>true
 |23=>true
 |24=>true
 |25=>true
 |27=>true
 |30=>true
 |31=>true
 |33=>true
 |42=>true
 |44=>true
 |46=>true
 |52=>true
 |71=>true
 |91=>true
 |92=>true
 |94=>true
 |96=>true
 |101=>true
 |162=>true
 |_=>false
def hasA:Nat→Bool
 |2=>true
 |3=>true
 |4=>true
 |6=>true
 |9=>true
 |22=>true
 |23=>true
 |24=>true
 |25=>true
 |27=>true
 |30=>true
 |31=>true
 |33=>true
 |42=>true
 |44=>true
 |46=>true
 |52=>true
 |71=>true
 |91=>true
 |92=>true
 |94=>true
 |96=>true
 |101=>true
 |162=>true
 |_=>false
def tiA:Nat→Option TI
 |2=>some ⟨1,8, .int .i64⟩
 |3=>some ⟨1,8, .int .i64⟩
 |4=>some ⟨1,1, .bool⟩
 |5=>some ⟨1,1, .int .u8⟩
 |6=>some ⟨1,1, .int .u8⟩
 |7=>some ⟨4,24, .struct [(0,2),(1,3),(2,4),(3,6)]⟩
 |8=>some ⟨4,24, .struct [(0,2),(1,3),(2,4),(3,6)]⟩
 |9=>some ⟨1,16, .str⟩
 |10=>some ⟨1,16, .str⟩
 |11=>some ⟨1,16, .str⟩
 |12=>some ⟨1,8, .int .u64⟩
 |13=>some ⟨2,24, .struct [(0,9),(1,12)]⟩
 |14=>some ⟨2,24, .struct [(0,9),(1,12)]⟩
 |15=>some ⟨1,8, .ptr 186⟩
 |16=>some ⟨1,8, .ptr 189⟩
 |17=>some ⟨1,8, .ptr 198⟩
 |18=>some ⟨1,8, .struct [(0,17)]⟩
 |19=>some ⟨1,8, .struct [(0,17)]⟩
 |21=>some ⟨1,4, .int .i32⟩
 |22=>some ⟨1,24, .slice 91⟩
 |23=>some ⟨1,24, .slice 94⟩
 |24=>some ⟨1,24, .slice 96⟩
 |25=>some ⟨1,24, .slice 33⟩
 |26=>some ⟨4,96, .struct [(0,22),(1,23),(2,24),(3,25)]⟩
 |27=>some ⟨4,96, .struct [(0,22),(1,23),(2,24),(3,25)]⟩
 |30=>some ⟨1,24, .slice 3⟩
 |31=>some ⟨1,24, .slice 44⟩
 |32=>some ⟨5,80, .struct [(0,9),(1,4),(2,30),(3,3),(4,31)]⟩
 |33=>some ⟨5,80, .struct [(0,9),(1,4),(2,30),(3,3),(4,31)]⟩
 |42=>some ⟨1,24, .slice 46⟩
 |43=>some ⟨1,24, .struct [(0,42)]⟩
 |44=>some ⟨1,24, .struct [(0,42)]⟩
 |45=>some ⟨7,88, .struct [(0,3),(1,3),(2,3),(3,3),(4,2),(5,30),(6,30)]⟩
 |46=>some ⟨7,88, .struct [(0,3),(1,3),(2,3),(3,3),(4,2),(5,30),(6,30)]⟩
 |47=>some ⟨1,8, .ptr 46⟩
 |52=>some ⟨1,24, .slice 30⟩
 |60=>some ⟨1,8, .ptr 33⟩
 |61=>some ⟨1,8, .ptr 44⟩
 |71=>some ⟨1,24, .slice 4⟩
 |74=>some ⟨1,24, .slice 5⟩
 |75=>some ⟨1,8, .int .i64⟩
 |90=>some ⟨3,48, .struct [(0,9),(1,30),(2,3)]⟩
 |91=>some ⟨3,48, .struct [(0,9),(1,30),(2,3)]⟩
 |92=>some ⟨1,24, .slice 2⟩
 |93=>some ⟨2,40, .struct [(0,9),(1,92)]⟩
 |94=>some ⟨2,40, .struct [(0,9),(1,92)]⟩
 |95=>some ⟨2,40, .struct [(0,9),(1,30)]⟩
 |96=>some ⟨2,40, .struct [(0,9),(1,30)]⟩
 |101=>some ⟨1,24, .slice 71⟩
 |102=>some ⟨1,8, .ptr 104⟩
 |103=>some ⟨8,160, .struct [(0,52),(1,30),(2,30),(3,71),(4,30),(5,3),(6,30),(7,3)]⟩
 |104=>some ⟨8,160, .struct [(0,52),(1,30),(2,30),(3,71),(4,30),(5,3),(6,30),(7,3)]⟩
 |118=>some ⟨1,8, .ptr 120⟩
 |119=>some ⟨1,24, .struct [(0,74)]⟩
 |120=>some ⟨1,24, .struct [(0,74)]⟩
 |129=>some ⟨1,8, .ptr 131⟩
 |130=>some ⟨3,40, .struct [(0,74),(1,3),(2,4)]⟩
 |131=>some ⟨3,40, .struct [(0,74),(1,3),(2,4)]⟩
 |137=>some ⟨1,8, .ptr 139⟩
 |138=>some ⟨3,40, .struct [(0,74),(1,3),(2,4)]⟩
 |139=>some ⟨3,40, .struct [(0,74),(1,3),(2,4)]⟩
 |141=>some ⟨2,16, .struct [(0,3),(1,3)]⟩
 |142=>some ⟨2,16, .struct [(0,3),(1,3)]⟩
 |143=>some ⟨1,24, .slice 142⟩
 |144=>some ⟨1,8, .ptr 142⟩
 |147=>some ⟨1,8, .int .u64⟩
 |148=>some ⟨1,8, .int .u64⟩
 |159=>some ⟨1,24, .slice 162⟩
 |162=>some ⟨2,16, .arr 2 3⟩
 |164=>some ⟨1,24, .slice 9⟩
 |175=>some ⟨1,8, .ptr 178⟩
 |177=>some ⟨8,136, .struct [(0,33),(5,30),(6,30),(7,4)]⟩
 |178=>some ⟨8,136, .struct [(0,33),(5,30),(6,30),(7,4)]⟩
 |_=>none
def mapsA:Nat→Option (Option IntKind×IntKind)
 |85=>some ((some .i64), .i64)
 |154=>some (none, .i64)
 |_=>none
def tb:Tb Ty:=⟨codA,tiA,hasA,flatA,soleA,mapsA⟩
theorem codA_ok (t:Nat):CodOk (codA t) (flatA t):=by
 unfold codA;split
 ·exact cod2_ok
 ·exact cod3_ok
 ·exact cod4_ok
 ·exact cod6_ok
 ·exact cod9_ok
 ·exact cod22_ok
 ·exact cod23_ok
 ·exact cod24_ok
 ·exact cod25_ok
 ·exact cod27_ok
 ·exact cod30_ok
 ·exact cod31_ok
 ·exact cod33_ok
 ·exact cod42_ok
 ·exact cod44_ok
 ·exact cod46_ok
 ·exact cod52_ok
 ·exact cod71_ok
 ·exact cod91_ok
 ·exact cod92_ok
 ·exact cod94_ok
 ·exact cod96_ok
 ·exact cod101_ok
 ·exact cod162_ok
 ·exact cod1033_ok
 ·exact cod1046_ok
 ·exact cod1091_ok
 ·exact cod1094_ok
 ·exact cod1096_ok
 ·exact codNone_ok t _
theorem sole_ok: ∀t,soleA t=true→ ∀x a,a∈(codA t).enc true x→(∃y,a= .v y)∨ ∃t' ys,a= .sl true t' ys∧soleA t'=true:=by
 intro t h
 unfold soleA at h
 split at h
 ·intro x a h
  simp only [codA,cod2,List.mem_cons,List.not_mem_nil,or_false] at h
  rcases h with rfl<;>first|exact .inl ⟨_,rfl⟩|exact .inr ⟨_,_,rfl,rfl⟩
 ·intro x a h
  simp only [codA,cod3,List.mem_cons,List.not_mem_nil,or_false] at h
  rcases h with rfl<;>first|exact .inl ⟨_,rfl⟩|exact .inr ⟨_,_,rfl,rfl⟩
 ·intro x a h
  simp only [codA,cod4,List.mem_cons,List.not_mem_nil,or_false] at h
  rcases h with rfl<;>first|exact .inl ⟨_,rfl⟩|exact .inr ⟨_,_,rfl,rfl⟩
 ·intro x a h
  simp only [codA,cod6,List.mem_cons,List.not_mem_nil,or_false] at h
  rcases h with rfl<;>first|exact .inl ⟨_,rfl⟩|exact .inr ⟨_,_,rfl,rfl⟩
 ·intro x a h
  simp only [codA,cod9,List.mem_cons,List.not_mem_nil,or_false] at h
  rcases h with rfl<;>first|exact .inl ⟨_,rfl⟩|exact .inr ⟨_,_,rfl,rfl⟩
 ·intro x a h
  simp only [codA,cod22,List.mem_cons,List.not_mem_nil,or_false] at h
  rcases h with rfl<;>first|exact .inl ⟨_,rfl⟩|exact .inr ⟨_,_,rfl,rfl⟩
 ·intro x a h
  simp only [codA,cod23,List.mem_cons,List.not_mem_nil,or_false] at h
  rcases h with rfl<;>first|exact .inl ⟨_,rfl⟩|exact .inr ⟨_,_,rfl,rfl⟩
 ·intro x a h
  simp only [codA,cod24,List.mem_cons,List.not_mem_nil,or_false] at h
  rcases h with rfl<;>first|exact .inl ⟨_,rfl⟩|exact .inr ⟨_,_,rfl,rfl⟩
 ·intro x a h
  simp only [codA,cod25,List.mem_cons,List.not_mem_nil,or_false] at h
  rcases h with rfl<;>first|exact .inl ⟨_,rfl⟩|exact .inr ⟨_,_,rfl,rfl⟩
 ·intro x a h
  simp only [codA,cod27,List.mem_cons,List.not_mem_nil,or_false] at h
  rcases h with rfl|rfl|rfl|rfl<;>first|exact .inl ⟨_,rfl⟩|exact .inr ⟨_,_,rfl,rfl⟩
 ·intro x a h
  simp only [codA,cod30,List.mem_cons,List.not_mem_nil,or_false] at h
  rcases h with rfl<;>first|exact .inl ⟨_,rfl⟩|exact .inr ⟨_,_,rfl,rfl⟩
 ·intro x a h
  simp only [codA,cod31,List.mem_cons,List.not_mem_nil,or_false] at h
  rcases h with rfl<;>first|exact .inl ⟨_,rfl⟩|exact .inr ⟨_,_,rfl,rfl⟩
 ·intro x a h
  simp only [codA,cod33,List.mem_cons,List.not_mem_nil,or_false] at h
  rcases h with rfl|rfl|rfl|rfl|rfl<;>first|exact .inl ⟨_,rfl⟩|exact .inr ⟨_,_,rfl,rfl⟩
 ·intro x a h
  simp only [codA,cod42,List.mem_cons,List.not_mem_nil,or_false] at h
  rcases h with rfl<;>first|exact .inl ⟨_,rfl⟩|exact .inr ⟨_,_,rfl,rfl⟩
 ·intro x a h
  simp only [codA,cod44,List.mem_cons,List.not_mem_nil,or_false] at h
  rcases h with rfl<;>first|exact .inl ⟨_,rfl⟩|exact .inr ⟨_,_,rfl,rfl⟩
 ·intro x a h
  simp only [codA,cod46,List.mem_cons,List.not_mem_nil,or_false] at h
  rcases h with rfl|rfl|rfl|rfl|rfl|rfl|rfl<;>first|exact .inl ⟨_,rfl⟩|exact .inr ⟨_,_,rfl,rfl⟩
 ·intro x a h
  simp only [codA,cod52,List.mem_cons,List.not_mem_nil,or_false] at h
  rcases h with rfl<;>first|exact .inl ⟨_,rfl⟩|exact .inr ⟨_,_,rfl,rfl⟩
 ·intro x a h
  simp only [codA,cod71,List.mem_cons,List.not_mem_nil,or_false] at h
  rcases h with rfl<;>first|exact .inl ⟨_,rfl⟩|exact .inr ⟨_,_,rfl,rfl⟩
 ·intro x a h
  simp only [codA,cod91,List.mem_cons,List.not_mem_nil,or_false] at h
  rcases h with rfl|rfl|rfl<;>first|exact .inl ⟨_,rfl⟩|exact .inr ⟨_,_,rfl,rfl⟩
 ·intro x a h
  simp only [codA,cod92,List.mem_cons,List.not_mem_nil,or_false] at h
  rcases h with rfl<;>first|exact .inl ⟨_,rfl⟩|exact .inr ⟨_,_,rfl,rfl⟩
 ·intro x a h
  simp only [codA,cod94,List.mem_cons,List.not_mem_nil,or_false] at h
  rcases h with rfl|rfl<;>first|exact .inl ⟨_,rfl⟩|exact .inr ⟨_,_,rfl,rfl⟩
 ·intro x a h
  simp only [codA,cod96,List.mem_cons,List.not_mem_nil,or_false] at h
  rcases h with rfl|rfl<;>first|exact .inl ⟨_,rfl⟩|exact .inr ⟨_,_,rfl,rfl⟩
 ·intro x a h
  simp only [codA,cod101,List.mem_cons,List.not_mem_nil,or_false] at h
  rcases h with rfl<;>first|exact .inl ⟨_,rfl⟩|exact .inr ⟨_,_,rfl,rfl⟩
 ·intro x a h
  simp only [codA,cod162,List.mem_cons,List.not_mem_nil,or_false] at h
  rcases h with rfl|rfl<;>first|exact .inl ⟨_,rfl⟩|exact .inr ⟨_,_,rfl,rfl⟩
 ·cases h
theorem good:Good tb:=⟨fun t=>(codA_ok t).len,fun t=>(codA_ok t).cell,fun t=>(codA_ok t).dec,fun t=>(codA_ok t).flip,fun t=>(codA_ok t).flat,fun t=>(codA_ok t).flip',sole_ok⟩
end Go.Proofs.Ytggibjbcbicpjaa.Ev
namespace Go.Proofs.Ytggibjbcbicpjaa.Ev
open Go
set_option linter.unusedVariables false
set_option linter.unusedSimpArgs false
theorem info2:Try.prog.info? 2=some Try.t2:=by kernel_rfl
theorem info3:Try.prog.info? 3=some Try.t3:=by kernel_rfl
theorem info4:Try.prog.info? 4=some Try.t4:=by kernel_rfl
theorem info5:Try.prog.info? 5=some Try.t5:=by kernel_rfl
theorem info6:Try.prog.info? 6=some Try.t6:=by kernel_rfl
theorem info7:Try.prog.info? 7=some Try.t7:=by kernel_rfl
theorem info8:Try.prog.info? 8=some Try.t8:=by kernel_rfl
theorem info9:Try.prog.info? 9=some Try.t9:=by kernel_rfl
theorem info10:Try.prog.info? 10=some Try.t10:=by kernel_rfl
theorem info11:Try.prog.info? 11=some Try.t11:=by kernel_rfl
theorem info12:Try.prog.info? 12=some Try.t12:=by kernel_rfl
theorem info13:Try.prog.info? 13=some Try.t13:=by kernel_rfl
theorem info14:Try.prog.info? 14=some Try.t14:=by kernel_rfl
theorem info15:Try.prog.info? 15=some Try.t15:=by kernel_rfl
theorem info16:Try.prog.info? 16=some Try.t16:=by kernel_rfl
theorem info17:Try.prog.info? 17=some Try.t17:=by kernel_rfl
theorem info18:Try.prog.info? 18=some Try.t18:=by kernel_rfl
theorem info19:Try.prog.info? 19=some Try.t19:=by kernel_rfl
theorem info21:Try.prog.info? 21=some Try.t21:=by kernel_rfl
theorem info22:Try.prog.info? 22=some Try.t22:=by kernel_rfl
theorem info23:Try.prog.info? 23=some Try.t23:=by kernel_rfl
theorem info24:Try.prog.info? 24=some Try.t24:=by kernel_rfl
theorem info25:Try.prog.info? 25=some Try.t25:=by kernel_rfl
theorem info26:Try.prog.info? 26=some Try.t26:=by kernel_rfl
theorem info27:Try.prog.info? 27=some Try.t27:=by kernel_rfl
theorem info30:Try.prog.info? 30=some Try.t30:=by kernel_rfl
theorem info31:Try.prog.info? 31=some Try.t31:=by kernel_rfl
theorem info32:Try.prog.info? 32=some Try.t32:=by kernel_rfl
theorem info33:Try.prog.info? 33=some Try.t33:=by kernel_rfl
theorem info42:Try.prog.info? 42=some Try.t42:=by kernel_rfl
theorem info43:Try.prog.info? 43=some Try.t43:=by kernel_rfl
theorem info44:Try.prog.info? 44=some Try.t44:=by kernel_rfl
theorem info45:Try.prog.info? 45=some Try.t45:=by kernel_rfl
theorem info46:Try.prog.info? 46=some Try.t46:=by kernel_rfl
theorem info47:Try.prog.info? 47=some Try.t47:=by kernel_rfl
theorem info52:Try.prog.info? 52=some Try.t52:=by kernel_rfl
theorem info60:Try.prog.info? 60=some Try.t60:=by kernel_rfl
theorem info61:Try.prog.info? 61=some Try.t61:=by kernel_rfl
theorem info71:Try.prog.info? 71=some Try.t71:=by kernel_rfl
theorem info74:Try.prog.info? 74=some Try.t74:=by kernel_rfl
theorem info75:Try.prog.info? 75=some Try.t75:=by kernel_rfl
theorem info90:Try.prog.info? 90=some Try.t90:=by kernel_rfl
theorem info91:Try.prog.info? 91=some Try.t91:=by kernel_rfl
theorem info92:Try.prog.info? 92=some Try.t92:=by kernel_rfl
theorem info93:Try.prog.info? 93=some Try.t93:=by kernel_rfl
theorem info94:Try.prog.info? 94=some Try.t94:=by kernel_rfl
theorem info95:Try.prog.info? 95=some Try.t95:=by kernel_rfl
theorem info96:Try.prog.info? 96=some Try.t96:=by kernel_rfl
theorem info101:Try.prog.info? 101=some Try.t101:=by kernel_rfl
theorem info102:Try.prog.info? 102=some Try.t102:=by kernel_rfl
theorem info103:Try.prog.info? 103=some Try.t103:=by kernel_rfl
theorem info104:Try.prog.info? 104=some Try.t104:=by kernel_rfl
theorem info118:Try.prog.info? 118=some Try.t118:=by kernel_rfl
theorem info119:Try.prog.info? 119=some Try.t119:=by kernel_rfl
theorem info120:Try.prog.info? 120=some Try.t120:=by kernel_rfl
theorem info129:Try.prog.info? 129=some Try.t129:=by kernel_rfl
theorem info130:Try.prog.info? 130=some Try.t130:=by kernel_rfl
theorem info131:Try.prog.info? 131=some Try.t131:=by kernel_rfl
theorem info137:Try.prog.info? 137=some Try.t137:=by kernel_rfl
theorem info138:Try.prog.info? 138=some Try.t138:=by kernel_rfl
theorem info139:Try.prog.info? 139=some Try.t139:=by kernel_rfl
theorem info141:Try.prog.info? 141=some Try.t141:=by kernel_rfl
theorem info142:Try.prog.info? 142=some Try.t142:=by kernel_rfl
theorem info143:Try.prog.info? 143=some Try.t143:=by kernel_rfl
theorem info144:Try.prog.info? 144=some Try.t144:=by kernel_rfl
theorem info147:Try.prog.info? 147=some Try.t147:=by kernel_rfl
theorem info148:Try.prog.info? 148=some Try.t148:=by kernel_rfl
theorem info159:Try.prog.info? 159=some Try.t159:=by kernel_rfl
theorem info162:Try.prog.info? 162=some Try.t162:=by kernel_rfl
theorem info164:Try.prog.info? 164=some Try.t164:=by kernel_rfl
theorem info175:Try.prog.info? 175=some Try.t175:=by kernel_rfl
theorem info177:Try.prog.info? 177=some Try.t177:=by kernel_rfl
theorem info178:Try.prog.info? 178=some Try.t178:=by kernel_rfl
theorem und2:Try.prog.underlying 2=some Try.t2.desc:=by kernel_rfl
theorem und3:Try.prog.underlying 3=some Try.t3.desc:=by kernel_rfl
theorem und4:Try.prog.underlying 4=some Try.t4.desc:=by kernel_rfl
theorem und5:Try.prog.underlying 5=some Try.t5.desc:=by kernel_rfl
theorem und6:Try.prog.underlying 6=some Try.t5.desc:=by kernel_rfl
theorem und7:Try.prog.underlying 7=some Try.t7.desc:=by kernel_rfl
theorem und8:Try.prog.underlying 8=some Try.t7.desc:=by kernel_rfl
theorem und9:Try.prog.underlying 9=some Try.t9.desc:=by kernel_rfl
theorem und10:Try.prog.underlying 10=some Try.t9.desc:=by kernel_rfl
theorem und11:Try.prog.underlying 11=some Try.t9.desc:=by kernel_rfl
theorem und12:Try.prog.underlying 12=some Try.t12.desc:=by kernel_rfl
theorem und13:Try.prog.underlying 13=some Try.t13.desc:=by kernel_rfl
theorem und14:Try.prog.underlying 14=some Try.t13.desc:=by kernel_rfl
theorem und15:Try.prog.underlying 15=some Try.t15.desc:=by kernel_rfl
theorem und16:Try.prog.underlying 16=some Try.t16.desc:=by kernel_rfl
theorem und17:Try.prog.underlying 17=some Try.t17.desc:=by kernel_rfl
theorem und18:Try.prog.underlying 18=some Try.t18.desc:=by kernel_rfl
theorem und19:Try.prog.underlying 19=some Try.t18.desc:=by kernel_rfl
theorem und21:Try.prog.underlying 21=some Try.t21.desc:=by kernel_rfl
theorem und22:Try.prog.underlying 22=some Try.t22.desc:=by kernel_rfl
theorem und23:Try.prog.underlying 23=some Try.t23.desc:=by kernel_rfl
theorem und24:Try.prog.underlying 24=some Try.t24.desc:=by kernel_rfl
theorem und25:Try.prog.underlying 25=some Try.t25.desc:=by kernel_rfl
theorem und26:Try.prog.underlying 26=some Try.t26.desc:=by kernel_rfl
theorem und27:Try.prog.underlying 27=some Try.t26.desc:=by kernel_rfl
theorem und30:Try.prog.underlying 30=some Try.t30.desc:=by kernel_rfl
theorem und31:Try.prog.underlying 31=some Try.t31.desc:=by kernel_rfl
theorem und32:Try.prog.underlying 32=some Try.t32.desc:=by kernel_rfl
theorem und33:Try.prog.underlying 33=some Try.t32.desc:=by kernel_rfl
theorem und42:Try.prog.underlying 42=some Try.t42.desc:=by kernel_rfl
theorem und43:Try.prog.underlying 43=some Try.t43.desc:=by kernel_rfl
theorem und44:Try.prog.underlying 44=some Try.t43.desc:=by kernel_rfl
theorem und45:Try.prog.underlying 45=some Try.t45.desc:=by kernel_rfl
theorem und46:Try.prog.underlying 46=some Try.t45.desc:=by kernel_rfl
theorem und47:Try.prog.underlying 47=some Try.t47.desc:=by kernel_rfl
theorem und52:Try.prog.underlying 52=some Try.t52.desc:=by kernel_rfl
theorem und60:Try.prog.underlying 60=some Try.t60.desc:=by kernel_rfl
theorem und61:Try.prog.underlying 61=some Try.t61.desc:=by kernel_rfl
theorem und71:Try.prog.underlying 71=some Try.t71.desc:=by kernel_rfl
theorem und74:Try.prog.underlying 74=some Try.t74.desc:=by kernel_rfl
theorem und75:Try.prog.underlying 75=some Try.t3.desc:=by kernel_rfl
theorem und90:Try.prog.underlying 90=some Try.t90.desc:=by kernel_rfl
theorem und91:Try.prog.underlying 91=some Try.t90.desc:=by kernel_rfl
theorem und92:Try.prog.underlying 92=some Try.t92.desc:=by kernel_rfl
theorem und93:Try.prog.underlying 93=some Try.t93.desc:=by kernel_rfl
theorem und94:Try.prog.underlying 94=some Try.t93.desc:=by kernel_rfl
theorem und95:Try.prog.underlying 95=some Try.t95.desc:=by kernel_rfl
theorem und96:Try.prog.underlying 96=some Try.t95.desc:=by kernel_rfl
theorem und101:Try.prog.underlying 101=some Try.t101.desc:=by kernel_rfl
theorem und102:Try.prog.underlying 102=some Try.t102.desc:=by kernel_rfl
theorem und103:Try.prog.underlying 103=some Try.t103.desc:=by kernel_rfl
theorem und104:Try.prog.underlying 104=some Try.t103.desc:=by kernel_rfl
theorem und118:Try.prog.underlying 118=some Try.t118.desc:=by kernel_rfl
theorem und119:Try.prog.underlying 119=some Try.t119.desc:=by kernel_rfl
theorem und120:Try.prog.underlying 120=some Try.t119.desc:=by kernel_rfl
theorem und129:Try.prog.underlying 129=some Try.t129.desc:=by kernel_rfl
theorem und130:Try.prog.underlying 130=some Try.t130.desc:=by kernel_rfl
theorem und131:Try.prog.underlying 131=some Try.t130.desc:=by kernel_rfl
theorem und137:Try.prog.underlying 137=some Try.t137.desc:=by kernel_rfl
theorem und138:Try.prog.underlying 138=some Try.t138.desc:=by kernel_rfl
theorem und139:Try.prog.underlying 139=some Try.t138.desc:=by kernel_rfl
theorem und141:Try.prog.underlying 141=some Try.t141.desc:=by kernel_rfl
theorem und142:Try.prog.underlying 142=some Try.t141.desc:=by kernel_rfl
theorem und143:Try.prog.underlying 143=some Try.t143.desc:=by kernel_rfl
theorem und144:Try.prog.underlying 144=some Try.t144.desc:=by kernel_rfl
theorem und147:Try.prog.underlying 147=some Try.t147.desc:=by kernel_rfl
theorem und148:Try.prog.underlying 148=some Try.t148.desc:=by kernel_rfl
theorem und159:Try.prog.underlying 159=some Try.t159.desc:=by kernel_rfl
theorem und162:Try.prog.underlying 162=some Try.t162.desc:=by kernel_rfl
theorem und164:Try.prog.underlying 164=some Try.t164.desc:=by kernel_rfl
theorem und175:Try.prog.underlying 175=some Try.t175.desc:=by kernel_rfl
theorem und177:Try.prog.underlying 177=some Try.t177.desc:=by kernel_rfl
theorem und178:Try.prog.underlying 178=some Try.t177.desc:=by kernel_rfl
theorem dok: ∀t i,tiA t=some i→ ∃d,Try.prog.underlying t=some d∧DOk (fun t z=> ∃j,Try.prog.info? t=some j∧j.size=z) i.d d:=by
 intro t i h
 unfold tiA at h
 split at h
 ·cases h
  exact ⟨_,und2,rfl⟩
 ·cases h
  exact ⟨_,und3,rfl⟩
 ·cases h
  exact ⟨_,und4,trivial⟩
 ·cases h
  exact ⟨_,und5,rfl⟩
 ·cases h
  exact ⟨_,und6,rfl⟩
 ·cases h
  refine ⟨_,und7,rfl,fun i p h=> ?_⟩
  have hl:i<4:=get_lt h
  match i,hl with
  |0,_=>cases h;exact ⟨_,rfl,rfl,rfl,_,⟨_,info2,rfl⟩,by decide⟩
  |1,_=>cases h;exact ⟨_,rfl,rfl,rfl,_,⟨_,info3,rfl⟩,by decide⟩
  |2,_=>cases h;exact ⟨_,rfl,rfl,rfl,_,⟨_,info4,rfl⟩,by decide⟩
  |3,_=>cases h;exact ⟨_,rfl,rfl,rfl,_,⟨_,info6,rfl⟩,by decide⟩
 ·cases h
  refine ⟨_,und8,rfl,fun i p h=> ?_⟩
  have hl:i<4:=get_lt h
  match i,hl with
  |0,_=>cases h;exact ⟨_,rfl,rfl,rfl,_,⟨_,info2,rfl⟩,by decide⟩
  |1,_=>cases h;exact ⟨_,rfl,rfl,rfl,_,⟨_,info3,rfl⟩,by decide⟩
  |2,_=>cases h;exact ⟨_,rfl,rfl,rfl,_,⟨_,info4,rfl⟩,by decide⟩
  |3,_=>cases h;exact ⟨_,rfl,rfl,rfl,_,⟨_,info6,rfl⟩,by decide⟩
 ·cases h
  exact ⟨_,und9,trivial⟩
 ·cases h
  exact ⟨_,und10,trivial⟩
 ·cases h
  exact ⟨_,und11,trivial⟩
 ·cases h
  exact ⟨_,und12,rfl⟩
 ·cases h
  refine ⟨_,und13,rfl,fun i p h=> ?_⟩
  have hl:i<2:=get_lt h
  match i,hl with
  |0,_=>cases h;exact ⟨_,rfl,rfl,rfl,_,⟨_,info9,rfl⟩,by decide⟩
  |1,_=>cases h;exact ⟨_,rfl,rfl,rfl,_,⟨_,info12,rfl⟩,by decide⟩
 ·cases h
  refine ⟨_,und14,rfl,fun i p h=> ?_⟩
  have hl:i<2:=get_lt h
  match i,hl with
  |0,_=>cases h;exact ⟨_,rfl,rfl,rfl,_,⟨_,info9,rfl⟩,by decide⟩
  |1,_=>cases h;exact ⟨_,rfl,rfl,rfl,_,⟨_,info12,rfl⟩,by decide⟩
 ·cases h
  exact ⟨_,und15,rfl⟩
 ·cases h
  exact ⟨_,und16,rfl⟩
 ·cases h
  exact ⟨_,und17,rfl⟩
 ·cases h
  refine ⟨_,und18,rfl,fun i p h=> ?_⟩
  have hl:i<1:=get_lt h
  match i,hl with
  |0,_=>cases h;exact ⟨_,rfl,rfl,rfl,_,⟨_,info17,rfl⟩,by decide⟩
 ·cases h
  refine ⟨_,und19,rfl,fun i p h=> ?_⟩
  have hl:i<1:=get_lt h
  match i,hl with
  |0,_=>cases h;exact ⟨_,rfl,rfl,rfl,_,⟨_,info17,rfl⟩,by decide⟩
 ·cases h
  exact ⟨_,und21,rfl⟩
 ·cases h
  exact ⟨_,und22,rfl⟩
 ·cases h
  exact ⟨_,und23,rfl⟩
 ·cases h
  exact ⟨_,und24,rfl⟩
 ·cases h
  exact ⟨_,und25,rfl⟩
 ·cases h
  refine ⟨_,und26,rfl,fun i p h=> ?_⟩
  have hl:i<4:=get_lt h
  match i,hl with
  |0,_=>cases h;exact ⟨_,rfl,rfl,rfl,_,⟨_,info22,rfl⟩,by decide⟩
  |1,_=>cases h;exact ⟨_,rfl,rfl,rfl,_,⟨_,info23,rfl⟩,by decide⟩
  |2,_=>cases h;exact ⟨_,rfl,rfl,rfl,_,⟨_,info24,rfl⟩,by decide⟩
  |3,_=>cases h;exact ⟨_,rfl,rfl,rfl,_,⟨_,info25,rfl⟩,by decide⟩
 ·cases h
  refine ⟨_,und27,rfl,fun i p h=> ?_⟩
  have hl:i<4:=get_lt h
  match i,hl with
  |0,_=>cases h;exact ⟨_,rfl,rfl,rfl,_,⟨_,info22,rfl⟩,by decide⟩
  |1,_=>cases h;exact ⟨_,rfl,rfl,rfl,_,⟨_,info23,rfl⟩,by decide⟩
  |2,_=>cases h;exact ⟨_,rfl,rfl,rfl,_,⟨_,info24,rfl⟩,by decide⟩
  |3,_=>cases h;exact ⟨_,rfl,rfl,rfl,_,⟨_,info25,rfl⟩,by decide⟩
 ·cases h
  exact ⟨_,und30,rfl⟩
 ·cases h
  exact ⟨_,und31,rfl⟩
 ·cases h
  refine ⟨_,und32,rfl,fun i p h=> ?_⟩
  have hl:i<5:=get_lt h
  match i,hl with
  |0,_=>cases h;exact ⟨_,rfl,rfl,rfl,_,⟨_,info9,rfl⟩,by decide⟩
  |1,_=>cases h;exact ⟨_,rfl,rfl,rfl,_,⟨_,info4,rfl⟩,by decide⟩
  |2,_=>cases h;exact ⟨_,rfl,rfl,rfl,_,⟨_,info30,rfl⟩,by decide⟩
  |3,_=>cases h;exact ⟨_,rfl,rfl,rfl,_,⟨_,info3,rfl⟩,by decide⟩
  |4,_=>cases h;exact ⟨_,rfl,rfl,rfl,_,⟨_,info31,rfl⟩,by decide⟩
 ·cases h
  refine ⟨_,und33,rfl,fun i p h=> ?_⟩
  have hl:i<5:=get_lt h
  match i,hl with
  |0,_=>cases h;exact ⟨_,rfl,rfl,rfl,_,⟨_,info9,rfl⟩,by decide⟩
  |1,_=>cases h;exact ⟨_,rfl,rfl,rfl,_,⟨_,info4,rfl⟩,by decide⟩
  |2,_=>cases h;exact ⟨_,rfl,rfl,rfl,_,⟨_,info30,rfl⟩,by decide⟩
  |3,_=>cases h;exact ⟨_,rfl,rfl,rfl,_,⟨_,info3,rfl⟩,by decide⟩
  |4,_=>cases h;exact ⟨_,rfl,rfl,rfl,_,⟨_,info31,rfl⟩,by decide⟩
 ·cases h
  exact ⟨_,und42,rfl⟩
 ·cases h
  refine ⟨_,und43,rfl,fun i p h=> ?_⟩
  have hl:i<1:=get_lt h
  match i,hl with
  |0,_=>cases h;exact ⟨_,rfl,rfl,rfl,_,⟨_,info42,rfl⟩,by decide⟩
 ·cases h
  refine ⟨_,und44,rfl,fun i p h=> ?_⟩
  have hl:i<1:=get_lt h
  match i,hl with
  |0,_=>cases h;exact ⟨_,rfl,rfl,rfl,_,⟨_,info42,rfl⟩,by decide⟩
 ·cases h
  refine ⟨_,und45,rfl,fun i p h=> ?_⟩
  have hl:i<7:=get_lt h
  match i,hl with
  |0,_=>cases h;exact ⟨_,rfl,rfl,rfl,_,⟨_,info3,rfl⟩,by decide⟩
  |1,_=>cases h;exact ⟨_,rfl,rfl,rfl,_,⟨_,info3,rfl⟩,by decide⟩
  |2,_=>cases h;exact ⟨_,rfl,rfl,rfl,_,⟨_,info3,rfl⟩,by decide⟩
  |3,_=>cases h;exact ⟨_,rfl,rfl,rfl,_,⟨_,info3,rfl⟩,by decide⟩
  |4,_=>cases h;exact ⟨_,rfl,rfl,rfl,_,⟨_,info2,rfl⟩,by decide⟩
  |5,_=>cases h;exact ⟨_,rfl,rfl,rfl,_,⟨_,info30,rfl⟩,by decide⟩
  |6,_=>cases h;exact ⟨_,rfl,rfl,rfl,_,⟨_,info30,rfl⟩,by decide⟩
 ·cases h
  refine ⟨_,und46,rfl,fun i p h=> ?_⟩
  have hl:i<7:=get_lt h
  match i,hl with
  |0,_=>cases h;exact ⟨_,rfl,rfl,rfl,_,⟨_,info3,rfl⟩,by decide⟩
  |1,_=>cases h;exact ⟨_,rfl,rfl,rfl,_,⟨_,info3,rfl⟩,by decide⟩
  |2,_=>cases h;exact ⟨_,rfl,rfl,rfl,_,⟨_,info3,rfl⟩,by decide⟩
  |3,_=>cases h;exact ⟨_,rfl,rfl,rfl,_,⟨_,info3,rfl⟩,by decide⟩
  |4,_=>cases h;exact ⟨_,rfl,rfl,rfl,_,⟨_,info2,rfl⟩,by decide⟩
  |5,_=>cases h;exact ⟨_,rfl,rfl,rfl,_,⟨_,info30,rfl⟩,by decide⟩
  |6,_=>cases h;exact ⟨_,rfl,rfl,rfl,_,⟨_,info30,rfl⟩,by decide⟩
 ·cases h
  exact ⟨_,und47,rfl⟩
 ·cases h
  exact ⟨_,und52,rfl⟩
 ·cases h
  exact ⟨_,und60,rfl⟩
 ·cases h
  exact ⟨_,und61,rfl⟩
 ·cases h
  exact ⟨_,und71,rfl⟩
 ·cases h
  exact ⟨_,und74,rfl⟩
 ·cases h
  exact ⟨_,und75,rfl⟩
 ·cases h
  refine ⟨_,und90,rfl,fun i p h=> ?_⟩
  have hl:i<3:=get_lt h
  match i,hl with
  |0,_=>cases h;exact ⟨_,rfl,rfl,rfl,_,⟨_,info9,rfl⟩,by decide⟩
  |1,_=>cases h;exact ⟨_,rfl,rfl,rfl,_,⟨_,info30,rfl⟩,by decide⟩
  |2,_=>cases h;exact ⟨_,rfl,rfl,rfl,_,⟨_,info3,rfl⟩,by decide⟩
 ·cases h
  refine ⟨_,und91,rfl,fun i p h=> ?_⟩
  have hl:i<3:=get_lt h
  match i,hl with
  |0,_=>cases h;exact ⟨_,rfl,rfl,rfl,_,⟨_,info9,rfl⟩,by decide⟩
  |1,_=>cases h;exact ⟨_,rfl,rfl,rfl,_,⟨_,info30,rfl⟩,by decide⟩
  |2,_=>cases h;exact ⟨_,rfl,rfl,rfl,_,⟨_,info3,rfl⟩,by decide⟩
 ·cases h
  exact ⟨_,und92,rfl⟩
 ·cases h
  refine ⟨_,und93,rfl,fun i p h=> ?_⟩
  have hl:i<2:=get_lt h
  match i,hl with
  |0,_=>cases h;exact ⟨_,rfl,rfl,rfl,_,⟨_,info9,rfl⟩,by decide⟩
  |1,_=>cases h;exact ⟨_,rfl,rfl,rfl,_,⟨_,info92,rfl⟩,by decide⟩
 ·cases h
  refine ⟨_,und94,rfl,fun i p h=> ?_⟩
  have hl:i<2:=get_lt h
  match i,hl with
  |0,_=>cases h;exact ⟨_,rfl,rfl,rfl,_,⟨_,info9,rfl⟩,by decide⟩
  |1,_=>cases h;exact ⟨_,rfl,rfl,rfl,_,⟨_,info92,rfl⟩,by decide⟩
 ·cases h
  refine ⟨_,und95,rfl,fun i p h=> ?_⟩
  have hl:i<2:=get_lt h
  match i,hl with
  |0,_=>cases h;exact ⟨_,rfl,rfl,rfl,_,⟨_,info9,rfl⟩,by decide⟩
  |1,_=>cases h;exact ⟨_,rfl,rfl,rfl,_,⟨_,info30,rfl⟩,by decide⟩
 ·cases h
  refine ⟨_,und96,rfl,fun i p h=> ?_⟩
  have hl:i<2:=get_lt h
  match i,hl with
  |0,_=>cases h;exact ⟨_,rfl,rfl,rfl,_,⟨_,info9,rfl⟩,by decide⟩
  |1,_=>cases h;exact ⟨_,rfl,rfl,rfl,_,⟨_,info30,rfl⟩,by decide⟩
 ·cases h
  exact ⟨_,und101,rfl⟩
 ·cases h
  exact ⟨_,und102,rfl⟩
 ·cases h
  refine ⟨_,und103,rfl,fun i p h=> ?_⟩
  have hl:i<8:=get_lt h
  match i,hl with
  |0,_=>cases h;exact ⟨_,rfl,rfl,rfl,_,⟨_,info52,rfl⟩,by decide⟩
  |1,_=>cases h;exact ⟨_,rfl,rfl,rfl,_,⟨_,info30,rfl⟩,by decide⟩
  |2,_=>cases h;exact ⟨_,rfl,rfl,rfl,_,⟨_,info30,rfl⟩,by decide⟩
  |3,_=>cases h;exact ⟨_,rfl,rfl,rfl,_,⟨_,info71,rfl⟩,by decide⟩
  |4,_=>cases h;exact ⟨_,rfl,rfl,rfl,_,⟨_,info30,rfl⟩,by decide⟩
  |5,_=>cases h;exact ⟨_,rfl,rfl,rfl,_,⟨_,info3,rfl⟩,by decide⟩
  |6,_=>cases h;exact ⟨_,rfl,rfl,rfl,_,⟨_,info30,rfl⟩,by decide⟩
  |7,_=>cases h;exact ⟨_,rfl,rfl,rfl,_,⟨_,info3,rfl⟩,by decide⟩
 ·cases h
  refine ⟨_,und104,rfl,fun i p h=> ?_⟩
  have hl:i<8:=get_lt h
  match i,hl with
  |0,_=>cases h;exact ⟨_,rfl,rfl,rfl,_,⟨_,info52,rfl⟩,by decide⟩
  |1,_=>cases h;exact ⟨_,rfl,rfl,rfl,_,⟨_,info30,rfl⟩,by decide⟩
  |2,_=>cases h;exact ⟨_,rfl,rfl,rfl,_,⟨_,info30,rfl⟩,by decide⟩
  |3,_=>cases h;exact ⟨_,rfl,rfl,rfl,_,⟨_,info71,rfl⟩,by decide⟩
  |4,_=>cases h;exact ⟨_,rfl,rfl,rfl,_,⟨_,info30,rfl⟩,by decide⟩
  |5,_=>cases h;exact ⟨_,rfl,rfl,rfl,_,⟨_,info3,rfl⟩,by decide⟩
  |6,_=>cases h;exact ⟨_,rfl,rfl,rfl,_,⟨_,info30,rfl⟩,by decide⟩
  |7,_=>cases h;exact ⟨_,rfl,rfl,rfl,_,⟨_,info3,rfl⟩,by decide⟩
 ·cases h
  exact ⟨_,und118,rfl⟩
 ·cases h
  refine ⟨_,und119,rfl,fun i p h=> ?_⟩
  have hl:i<1:=get_lt h
  match i,hl with
  |0,_=>cases h;exact ⟨_,rfl,rfl,rfl,_,⟨_,info74,rfl⟩,by decide⟩
 ·cases h
  refine ⟨_,und120,rfl,fun i p h=> ?_⟩
  have hl:i<1:=get_lt h
  match i,hl with
  |0,_=>cases h;exact ⟨_,rfl,rfl,rfl,_,⟨_,info74,rfl⟩,by decide⟩
 ·cases h
  exact ⟨_,und129,rfl⟩
 ·cases h
  refine ⟨_,und130,rfl,fun i p h=> ?_⟩
  have hl:i<3:=get_lt h
  match i,hl with
  |0,_=>cases h;exact ⟨_,rfl,rfl,rfl,_,⟨_,info74,rfl⟩,by decide⟩
  |1,_=>cases h;exact ⟨_,rfl,rfl,rfl,_,⟨_,info3,rfl⟩,by decide⟩
  |2,_=>cases h;exact ⟨_,rfl,rfl,rfl,_,⟨_,info4,rfl⟩,by decide⟩
 ·cases h
  refine ⟨_,und131,rfl,fun i p h=> ?_⟩
  have hl:i<3:=get_lt h
  match i,hl with
  |0,_=>cases h;exact ⟨_,rfl,rfl,rfl,_,⟨_,info74,rfl⟩,by decide⟩
  |1,_=>cases h;exact ⟨_,rfl,rfl,rfl,_,⟨_,info3,rfl⟩,by decide⟩
  |2,_=>cases h;exact ⟨_,rfl,rfl,rfl,_,⟨_,info4,rfl⟩,by decide⟩
 ·cases h
  exact ⟨_,und137,rfl⟩
 ·cases h
  refine ⟨_,und138,rfl,fun i p h=> ?_⟩
  have hl:i<3:=get_lt h
  match i,hl with
  |0,_=>cases h;exact ⟨_,rfl,rfl,rfl,_,⟨_,info74,rfl⟩,by decide⟩
  |1,_=>cases h;exact ⟨_,rfl,rfl,rfl,_,⟨_,info3,rfl⟩,by decide⟩
  |2,_=>cases h;exact ⟨_,rfl,rfl,rfl,_,⟨_,info4,rfl⟩,by decide⟩
 ·cases h
  refine ⟨_,und139,rfl,fun i p h=> ?_⟩
  have hl:i<3:=get_lt h
  match i,hl with
  |0,_=>cases h;exact ⟨_,rfl,rfl,rfl,_,⟨_,info74,rfl⟩,by decide⟩
  |1,_=>cases h;exact ⟨_,rfl,rfl,rfl,_,⟨_,info3,rfl⟩,by decide⟩
  |2,_=>cases h;exact ⟨_,rfl,rfl,rfl,_,⟨_,info4,rfl⟩,by decide⟩
 ·cases h
  refine ⟨_,und141,rfl,fun i p h=> ?_⟩
  have hl:i<2:=get_lt h
  match i,hl with
  |0,_=>cases h;exact ⟨_,rfl,rfl,rfl,_,⟨_,info3,rfl⟩,by decide⟩
  |1,_=>cases h;exact ⟨_,rfl,rfl,rfl,_,⟨_,info3,rfl⟩,by decide⟩
 ·cases h
  refine ⟨_,und142,rfl,fun i p h=> ?_⟩
  have hl:i<2:=get_lt h
  match i,hl with
  |0,_=>cases h;exact ⟨_,rfl,rfl,rfl,_,⟨_,info3,rfl⟩,by decide⟩
  |1,_=>cases h;exact ⟨_,rfl,rfl,rfl,_,⟨_,info3,rfl⟩,by decide⟩
 ·cases h
  exact ⟨_,und143,rfl⟩
 ·cases h
  exact ⟨_,und144,rfl⟩
 ·cases h
  exact ⟨_,und147,rfl⟩
 ·cases h
  exact ⟨_,und148,rfl⟩
 ·cases h
  exact ⟨_,und159,rfl⟩
 ·cases h
  exact ⟨_,und162,⟨rfl,rfl⟩⟩
 ·cases h
  exact ⟨_,und164,rfl⟩
 ·cases h
  exact ⟨_,und175,rfl⟩
 ·cases h
  refine ⟨_,und177,rfl,fun i p h=> ?_⟩
  have hl:i<4:=get_lt h
  match i,hl with
  |0,_=>cases h;exact ⟨_,rfl,rfl,rfl,_,⟨_,info33,rfl⟩,by decide⟩
  |1,_=>cases h;exact ⟨_,rfl,rfl,rfl,_,⟨_,info30,rfl⟩,by decide⟩
  |2,_=>cases h;exact ⟨_,rfl,rfl,rfl,_,⟨_,info30,rfl⟩,by decide⟩
  |3,_=>cases h;exact ⟨_,rfl,rfl,rfl,_,⟨_,info4,rfl⟩,by decide⟩
 ·cases h
  refine ⟨_,und178,rfl,fun i p h=> ?_⟩
  have hl:i<4:=get_lt h
  match i,hl with
  |0,_=>cases h;exact ⟨_,rfl,rfl,rfl,_,⟨_,info33,rfl⟩,by decide⟩
  |1,_=>cases h;exact ⟨_,rfl,rfl,rfl,_,⟨_,info30,rfl⟩,by decide⟩
  |2,_=>cases h;exact ⟨_,rfl,rfl,rfl,_,⟨_,info30,rfl⟩,by decide⟩
  |3,_=>cases h;exact ⟨_,rfl,rfl,rfl,_,⟨_,info4,rfl⟩,by decide⟩
 ·cases h
theorem iok: ∀t i,tiA t=some i→ ∃j,Try.prog.info? t=some j∧j.size=i.sz∧j.bytes=i.bytes:=by
 intro t i h
 unfold tiA at h
 split at h
 ·cases h;exact ⟨_,info2,rfl,rfl⟩
 ·cases h;exact ⟨_,info3,rfl,rfl⟩
 ·cases h;exact ⟨_,info4,rfl,rfl⟩
 ·cases h;exact ⟨_,info5,rfl,rfl⟩
 ·cases h;exact ⟨_,info6,rfl,rfl⟩
 ·cases h;exact ⟨_,info7,rfl,rfl⟩
 ·cases h;exact ⟨_,info8,rfl,rfl⟩
 ·cases h;exact ⟨_,info9,rfl,rfl⟩
 ·cases h;exact ⟨_,info10,rfl,rfl⟩
 ·cases h;exact ⟨_,info11,rfl,rfl⟩
 ·cases h;exact ⟨_,info12,rfl,rfl⟩
 ·cases h;exact ⟨_,info13,rfl,rfl⟩
 ·cases h;exact ⟨_,info14,rfl,rfl⟩
 ·cases h;exact ⟨_,info15,rfl,rfl⟩
 ·cases h;exact ⟨_,info16,rfl,rfl⟩
 ·cases h;exact ⟨_,info17,rfl,rfl⟩
 ·cases h;exact ⟨_,info18,rfl,rfl⟩
 ·cases h;exact ⟨_,info19,rfl,rfl⟩
 ·cases h;exact ⟨_,info21,rfl,rfl⟩
 ·cases h;exact ⟨_,info22,rfl,rfl⟩
 ·cases h;exact ⟨_,info23,rfl,rfl⟩
 ·cases h;exact ⟨_,info24,rfl,rfl⟩
 ·cases h;exact ⟨_,info25,rfl,rfl⟩
 ·cases h;exact ⟨_,info26,rfl,rfl⟩
 ·cases h;exact ⟨_,info27,rfl,rfl⟩
 ·cases h;exact ⟨_,info30,rfl,rfl⟩
 ·cases h;exact ⟨_,info31,rfl,rfl⟩
 ·cases h;exact ⟨_,info32,rfl,rfl⟩
 ·cases h;exact ⟨_,info33,rfl,rfl⟩
 ·cases h;exact ⟨_,info42,rfl,rfl⟩
 ·cases h;exact ⟨_,info43,rfl,rfl⟩
 ·cases h;exact ⟨_,info44,rfl,rfl⟩
 ·cases h;exact ⟨_,info45,rfl,rfl⟩
 ·cases h;exact ⟨_,info46,rfl,rfl⟩
 ·cases h;exact ⟨_,info47,rfl,rfl⟩
 ·cases h;exact ⟨_,info52,rfl,rfl⟩
 ·cases h;exact ⟨_,info60,rfl,rfl⟩
 ·cases h;exact ⟨_,info61,rfl,rfl⟩
 ·cases h;exact ⟨_,info71,rfl,rfl⟩
 ·cases h;exact ⟨_,info74,rfl,rfl⟩
 ·cases h;exact ⟨_,info75,rfl,rfl⟩
 ·cases h;exact ⟨_,info90,rfl,rfl⟩
 ·cases h;exact ⟨_,info91,rfl,rfl⟩
 ·cases h;exact ⟨_,info92,rfl,rfl⟩
 ·cases h;exact ⟨_,info93,rfl,rfl⟩
 ·cases h;exact ⟨_,info94,rfl,rfl⟩
 ·cases h;exact ⟨_,info95,rfl,rfl⟩
 ·cases h;exact ⟨_,info96,rfl,rfl⟩
 ·cases h;exact ⟨_,info101,rfl,rfl⟩
 ·cases h;exact ⟨_,info102,rfl,rfl⟩
 ·cases h;exact ⟨_,info103,rfl,rfl⟩
 ·cases h;exact ⟨_,info104,rfl,rfl⟩
 ·cases h;exact ⟨_,info118,rfl,rfl⟩
 ·cases h;exact ⟨_,info119,rfl,rfl⟩
 ·cases h;exact ⟨_,info120,rfl,rfl⟩
 ·cases h;exact ⟨_,info129,rfl,rfl⟩
 ·cases h;exact ⟨_,info130,rfl,rfl⟩
 ·cases h;exact ⟨_,info131,rfl,rfl⟩
 ·cases h;exact ⟨_,info137,rfl,rfl⟩
 ·cases h;exact ⟨_,info138,rfl,rfl⟩
 ·cases h;exact ⟨_,info139,rfl,rfl⟩
 ·cases h;exact ⟨_,info141,rfl,rfl⟩
 ·cases h;exact ⟨_,info142,rfl,rfl⟩
 ·cases h;exact ⟨_,info143,rfl,rfl⟩
 ·cases h;exact ⟨_,info144,rfl,rfl⟩
 ·cases h;exact ⟨_,info147,rfl,rfl⟩
 ·cases h;exact ⟨_,info148,rfl,rfl⟩
 ·cases h;exact ⟨_,info159,rfl,rfl⟩
 ·cases h;exact ⟨_,info162,rfl,rfl⟩
 ·cases h;exact ⟨_,info164,rfl,rfl⟩
 ·cases h;exact ⟨_,info175,rfl,rfl⟩
 ·cases h;exact ⟨_,info177,rfl,rfl⟩
 ·cases h;exact ⟨_,info178,rfl,rfl⟩
 ·cases h
theorem zok: ∀t i,tiA t=some i→hasA t=true→szOf tb t=i.sz∧ ∃j z,Try.prog.info? t=some j∧j.zero=some z∧z.cells.size=i.sz∧
  ∀m (o:Nat) a,((tb.cod t).enc m (tb.cod t).zero)[o]? =some a→ ∃v,z.cells[o]? =some v∧((a= .v v∧oneC v=true)∨ ∃q t',a= .sl q t' []∧v= .slice none 0 0):=by
 intro t i h hh
 unfold tiA at h
 split at h
 ·cases h
  refine ⟨rfl,_,_,info2,rfl,rfl,fun m o a h=> ?_⟩
  have hl:o<1:=get_lt h
  match o,hl with
  |0,_=>cases h;exact ⟨_,rfl,by first|exact .inl ⟨rfl,rfl⟩|exact .inr ⟨_,_,rfl,rfl⟩⟩
 ·cases h
  refine ⟨rfl,_,_,info3,rfl,rfl,fun m o a h=> ?_⟩
  have hl:o<1:=get_lt h
  match o,hl with
  |0,_=>cases h;exact ⟨_,rfl,by first|exact .inl ⟨rfl,rfl⟩|exact .inr ⟨_,_,rfl,rfl⟩⟩
 ·cases h
  refine ⟨rfl,_,_,info4,rfl,rfl,fun m o a h=> ?_⟩
  have hl:o<1:=get_lt h
  match o,hl with
  |0,_=>cases h;exact ⟨_,rfl,by first|exact .inl ⟨rfl,rfl⟩|exact .inr ⟨_,_,rfl,rfl⟩⟩
 ·cases hh
 ·cases h
  refine ⟨rfl,_,_,info6,rfl,rfl,fun m o a h=> ?_⟩
  have hl:o<1:=get_lt h
  match o,hl with
  |0,_=>cases h;exact ⟨_,rfl,by first|exact .inl ⟨rfl,rfl⟩|exact .inr ⟨_,_,rfl,rfl⟩⟩
 ·cases hh
 ·cases hh
 ·cases h
  refine ⟨rfl,_,_,info9,rfl,rfl,fun m o a h=> ?_⟩
  have hl:o<1:=get_lt h
  match o,hl with
  |0,_=>cases h;exact ⟨_,rfl,by first|exact .inl ⟨rfl,rfl⟩|exact .inr ⟨_,_,rfl,rfl⟩⟩
 ·cases hh
 ·cases hh
 ·cases hh
 ·cases hh
 ·cases hh
 ·cases hh
 ·cases hh
 ·cases hh
 ·cases hh
 ·cases hh
 ·cases hh
 ·cases h
  refine ⟨rfl,_,_,info22,rfl,rfl,fun m o a h=> ?_⟩
  have hl:o<1:=get_lt h
  match o,hl with
  |0,_=>cases h;exact ⟨_,rfl,by first|exact .inl ⟨rfl,rfl⟩|exact .inr ⟨_,_,rfl,rfl⟩⟩
 ·cases h
  refine ⟨rfl,_,_,info23,rfl,rfl,fun m o a h=> ?_⟩
  have hl:o<1:=get_lt h
  match o,hl with
  |0,_=>cases h;exact ⟨_,rfl,by first|exact .inl ⟨rfl,rfl⟩|exact .inr ⟨_,_,rfl,rfl⟩⟩
 ·cases h
  refine ⟨rfl,_,_,info24,rfl,rfl,fun m o a h=> ?_⟩
  have hl:o<1:=get_lt h
  match o,hl with
  |0,_=>cases h;exact ⟨_,rfl,by first|exact .inl ⟨rfl,rfl⟩|exact .inr ⟨_,_,rfl,rfl⟩⟩
 ·cases h
  refine ⟨rfl,_,_,info25,rfl,rfl,fun m o a h=> ?_⟩
  have hl:o<1:=get_lt h
  match o,hl with
  |0,_=>cases h;exact ⟨_,rfl,by first|exact .inl ⟨rfl,rfl⟩|exact .inr ⟨_,_,rfl,rfl⟩⟩
 ·cases hh
 ·cases h
  refine ⟨rfl,_,_,info27,rfl,rfl,fun m o a h=> ?_⟩
  have hl:o<4:=get_lt h
  match o,hl with
  |0,_=>cases h;exact ⟨_,rfl,by first|exact .inl ⟨rfl,rfl⟩|exact .inr ⟨_,_,rfl,rfl⟩⟩
  |1,_=>cases h;exact ⟨_,rfl,by first|exact .inl ⟨rfl,rfl⟩|exact .inr ⟨_,_,rfl,rfl⟩⟩
  |2,_=>cases h;exact ⟨_,rfl,by first|exact .inl ⟨rfl,rfl⟩|exact .inr ⟨_,_,rfl,rfl⟩⟩
  |3,_=>cases h;exact ⟨_,rfl,by first|exact .inl ⟨rfl,rfl⟩|exact .inr ⟨_,_,rfl,rfl⟩⟩
 ·cases h
  refine ⟨rfl,_,_,info30,rfl,rfl,fun m o a h=> ?_⟩
  have hl:o<1:=get_lt h
  match o,hl with
  |0,_=>cases h;exact ⟨_,rfl,by first|exact .inl ⟨rfl,rfl⟩|exact .inr ⟨_,_,rfl,rfl⟩⟩
 ·cases h
  refine ⟨rfl,_,_,info31,rfl,rfl,fun m o a h=> ?_⟩
  have hl:o<1:=get_lt h
  match o,hl with
  |0,_=>cases h;exact ⟨_,rfl,by first|exact .inl ⟨rfl,rfl⟩|exact .inr ⟨_,_,rfl,rfl⟩⟩
 ·cases hh
 ·cases h
  refine ⟨rfl,_,_,info33,rfl,rfl,fun m o a h=> ?_⟩
  have hl:o<5:=get_lt h
  match o,hl with
  |0,_=>cases h;exact ⟨_,rfl,by first|exact .inl ⟨rfl,rfl⟩|exact .inr ⟨_,_,rfl,rfl⟩⟩
  |1,_=>cases h;exact ⟨_,rfl,by first|exact .inl ⟨rfl,rfl⟩|exact .inr ⟨_,_,rfl,rfl⟩⟩
  |2,_=>cases h;exact ⟨_,rfl,by first|exact .inl ⟨rfl,rfl⟩|exact .inr ⟨_,_,rfl,rfl⟩⟩
  |3,_=>cases h;exact ⟨_,rfl,by first|exact .inl ⟨rfl,rfl⟩|exact .inr ⟨_,_,rfl,rfl⟩⟩
  |4,_=>cases h;exact ⟨_,rfl,by first|exact .inl ⟨rfl,rfl⟩|exact .inr ⟨_,_,rfl,rfl⟩⟩
 ·cases h
  refine ⟨rfl,_,_,info42,rfl,rfl,fun m o a h=> ?_⟩
  have hl:o<1:=get_lt h
  match o,hl with
  |0,_=>cases h;exact ⟨_,rfl,by first|exact .inl ⟨rfl,rfl⟩|exact .inr ⟨_,_,rfl,rfl⟩⟩
 ·cases hh
 ·cases h
  refine ⟨rfl,_,_,info44,rfl,rfl,fun m o a h=> ?_⟩
  have hl:o<1:=get_lt h
  match o,hl with
  |0,_=>cases h;exact ⟨_,rfl,by first|exact .inl ⟨rfl,rfl⟩|exact .inr ⟨_,_,rfl,rfl⟩⟩
 ·cases hh
 ·cases h
  refine ⟨rfl,_,_,info46,rfl,rfl,fun m o a h=> ?_⟩
  have hl:o<7:=get_lt h
  match o,hl with
  |0,_=>cases h;exact ⟨_,rfl,by first|exact .inl ⟨rfl,rfl⟩|exact .inr ⟨_,_,rfl,rfl⟩⟩
  |1,_=>cases h;exact ⟨_,rfl,by first|exact .inl ⟨rfl,rfl⟩|exact .inr ⟨_,_,rfl,rfl⟩⟩
  |2,_=>cases h;exact ⟨_,rfl,by first|exact .inl ⟨rfl,rfl⟩|exact .inr ⟨_,_,rfl,rfl⟩⟩
  |3,_=>cases h;exact ⟨_,rfl,by first|exact .inl ⟨rfl,rfl⟩|exact .inr ⟨_,_,rfl,rfl⟩⟩
  |4,_=>cases h;exact ⟨_,rfl,by first|exact .inl ⟨rfl,rfl⟩|exact .inr ⟨_,_,rfl,rfl⟩⟩
  |5,_=>cases h;exact ⟨_,rfl,by first|exact .inl ⟨rfl,rfl⟩|exact .inr ⟨_,_,rfl,rfl⟩⟩
  |6,_=>cases h;exact ⟨_,rfl,by first|exact .inl ⟨rfl,rfl⟩|exact .inr ⟨_,_,rfl,rfl⟩⟩
 ·cases hh
 ·cases h
  refine ⟨rfl,_,_,info52,rfl,rfl,fun m o a h=> ?_⟩
  have hl:o<1:=get_lt h
  match o,hl with
  |0,_=>cases h;exact ⟨_,rfl,by first|exact .inl ⟨rfl,rfl⟩|exact .inr ⟨_,_,rfl,rfl⟩⟩
 ·cases hh
 ·cases hh
 ·cases h
  refine ⟨rfl,_,_,info71,rfl,rfl,fun m o a h=> ?_⟩
  have hl:o<1:=get_lt h
  match o,hl with
  |0,_=>cases h;exact ⟨_,rfl,by first|exact .inl ⟨rfl,rfl⟩|exact .inr ⟨_,_,rfl,rfl⟩⟩
 ·cases hh
 ·cases hh
 ·cases hh
 ·cases h
  refine ⟨rfl,_,_,info91,rfl,rfl,fun m o a h=> ?_⟩
  have hl:o<3:=get_lt h
  match o,hl with
  |0,_=>cases h;exact ⟨_,rfl,by first|exact .inl ⟨rfl,rfl⟩|exact .inr ⟨_,_,rfl,rfl⟩⟩
  |1,_=>cases h;exact ⟨_,rfl,by first|exact .inl ⟨rfl,rfl⟩|exact .inr ⟨_,_,rfl,rfl⟩⟩
  |2,_=>cases h;exact ⟨_,rfl,by first|exact .inl ⟨rfl,rfl⟩|exact .inr ⟨_,_,rfl,rfl⟩⟩
 ·cases h
  refine ⟨rfl,_,_,info92,rfl,rfl,fun m o a h=> ?_⟩
  have hl:o<1:=get_lt h
  match o,hl with
  |0,_=>cases h;exact ⟨_,rfl,by first|exact .inl ⟨rfl,rfl⟩|exact .inr ⟨_,_,rfl,rfl⟩⟩
 ·cases hh
 ·cases h
  refine ⟨rfl,_,_,info94,rfl,rfl,fun m o a h=> ?_⟩
  have hl:o<2:=get_lt h
  match o,hl with
  |0,_=>cases h;exact ⟨_,rfl,by first|exact .inl ⟨rfl,rfl⟩|exact .inr ⟨_,_,rfl,rfl⟩⟩
  |1,_=>cases h;exact ⟨_,rfl,by first|exact .inl ⟨rfl,rfl⟩|exact .inr ⟨_,_,rfl,rfl⟩⟩
 ·cases hh
 ·cases h
  refine ⟨rfl,_,_,info96,rfl,rfl,fun m o a h=> ?_⟩
  have hl:o<2:=get_lt h
  match o,hl with
  |0,_=>cases h;exact ⟨_,rfl,by first|exact .inl ⟨rfl,rfl⟩|exact .inr ⟨_,_,rfl,rfl⟩⟩
  |1,_=>cases h;exact ⟨_,rfl,by first|exact .inl ⟨rfl,rfl⟩|exact .inr ⟨_,_,rfl,rfl⟩⟩
 ·cases h
  refine ⟨rfl,_,_,info101,rfl,rfl,fun m o a h=> ?_⟩
  have hl:o<1:=get_lt h
  match o,hl with
  |0,_=>cases h;exact ⟨_,rfl,by first|exact .inl ⟨rfl,rfl⟩|exact .inr ⟨_,_,rfl,rfl⟩⟩
 ·cases hh
 ·cases hh
 ·cases hh
 ·cases hh
 ·cases hh
 ·cases hh
 ·cases hh
 ·cases hh
 ·cases hh
 ·cases hh
 ·cases hh
 ·cases hh
 ·cases hh
 ·cases hh
 ·cases hh
 ·cases hh
 ·cases hh
 ·cases hh
 ·cases hh
 ·cases h
  refine ⟨rfl,_,_,info162,rfl,rfl,fun m o a h=> ?_⟩
  have hl:o<2:=get_lt h
  match o,hl with
  |0,_=>cases h;exact ⟨_,rfl,by first|exact .inl ⟨rfl,rfl⟩|exact .inr ⟨_,_,rfl,rfl⟩⟩
  |1,_=>cases h;exact ⟨_,rfl,by first|exact .inl ⟨rfl,rfl⟩|exact .inr ⟨_,_,rfl,rfl⟩⟩
 ·cases hh
 ·cases hh
 ·cases hh
 ·cases hh
 ·cases h
theorem mok: ∀t kd q,mapsA t=some (kd,q)→ ∃kt et j,Try.prog.underlying t=some (.map kt et)∧Try.prog.underlying kt=some (kdDesc kd)∧Try.prog.info? et=some j∧j.zero=some (.int q 0):=by
 intro t kd q h
 unfold mapsA at h
 split at h
 ·cases h;exact ⟨3,3,Try.t3,by kernel_rfl,by kernel_rfl,by kernel_rfl,by kernel_rfl⟩
 ·cases h;exact ⟨9,3,Try.t3,by kernel_rfl,by kernel_rfl,by kernel_rfl,by kernel_rfl⟩
 ·cases h
theorem tbOk:TbOk tb Try.prog:=⟨mok,dok,iok,zok⟩
theorem mixed:Try.prog.follows .mixedOrders=true:=by kernel_rfl
end Go.Proofs.Ytggibjbcbicpjaa.Ev
namespace Go.Proofs.Ytggibjbcbicpjaa.Ev
open Go
def fstC:Code→Code
 | .seq a _=>a
 |c=>c
def sndC:Code→Code
 | .seq _ b=>b
 |c=>c
def inC:Code→Code
 | .block _ c=>c
 | .loop c=>c
 | .scope c=>c
 |c=>c
def thenC:Code→Code
 | .cond _ a _=>a
 |c=>c
def elseC:Code→Code
 | .cond _ _ b=>b
 |c=>c
def bodyOf (f:Go.Func):Code:=match f.body with
 |some c=>c
 |none=> .skip
theorem walk_succ {Ty:Nat→Type} {E:Tb Ty} {C:Cfg Ty} {U:Cuts} {R:Type} {Rt:St Ty→Option R} {n:Nat} {k:List Item} {s:St Ty}:walk E C U Rt (n+1) k s=run E C U (walk E C U Rt n) Rt 4096 k s:=rfl
theorem wrap_up {x:Int} (h: -9223372036854775808≤x∧x≤9223372036854775807):IntKind.i64.wrap x=x:=Go.IntWalk.i64_in x h
theorem iP {c:Prop} {h:Decidable c} (hc:c) {α:Type} {t e:α}:ite c t e=t:=if_pos hc
theorem iN {c:Prop} {h:Decidable c} (hc: ¬c) {α:Type} {t e:α}:ite c t e=e:=if_neg hc
theorem iT {α:Type} {h:Decidable True} (t e:α):ite True t e=t:=if_pos trivial
theorem iF {α:Type} {h:Decidable False} (t e:α):ite False t e=e:=if_neg id
theorem dT {p:Prop} [Decidable p]:(decide p=true)=p:=decide_eq_true_eq
theorem dF {p:Prop} [Decidable p]:(decide p=false)= ¬p:=propext decide_eq_false_iff_not
theorem tN (n:Nat):((n:Int)).toNat=n:=Int.toNat_natCast n
def Entered (f:FuncId):Prop:= ∃fn c,Try.prog.funcs[f]? =some fn∧(fn.name == "runtime.NumGoroutine")=false∧fn.body=some c
end Go.Proofs.Ytggibjbcbicpjaa.Ev
namespace Go.Proofs.Ytggibjbcbicpjaa.Ev
open Go
set_option linter.unusedVariables false
abbrev EvR:=Option (AV Ty×List (AV Ty))
def Goes (C:Cfg Ty) (U:Cuts) (Rt:St Ty→EvR) (k:List Item) (s:St Ty) (k':List Item) (s':St Ty):Prop:=
 ∃n0,∀n,walk tb C U Rt (n+n0) k s=walk tb C U Rt n k' s'
def Ends (C:Cfg Ty) (U:Cuts) (Rt:St Ty→EvR) (k:List Item) (s:St Ty) (r:EvR):Prop:=
 ∃n0,∀n,walk tb C U Rt (n+n0) k s=r
section
variable {C:Cfg Ty} {U:Cuts} {Rt:St Ty→EvR} {k k' k'':List Item} {s s' s'':St Ty} {r:EvR}
theorem Goes.refl:Goes C U Rt k s k s:=⟨0,fun _=>rfl⟩
theorem Goes.trans (h:Goes C U Rt k s k' s') (g:Goes C U Rt k' s' k'' s''):Goes C U Rt k s k'' s'':=by
 obtain ⟨a,ha⟩:=h
 obtain ⟨b,hb⟩:=g
 exact ⟨b+a,fun n=>by rw [←Nat.add_assoc,ha,hb]⟩
theorem Goes.ends (h:Goes C U Rt k s k' s') (g:Ends C U Rt k' s' r):Ends C U Rt k s r:=by
 obtain ⟨a,ha⟩:=h
 obtain ⟨b,hb⟩:=g
 exact ⟨b+a,fun n=>by rw [←Nat.add_assoc,ha,hb]⟩
theorem Goes.step (h: ∀J:List Item→St Ty→EvR,run tb C U J Rt 4096 k s=J k' s'):Goes C U Rt k s k' s':=
 ⟨1,fun n=>(walk_succ.trans (h _))⟩
theorem Ends.step (h: ∀J:List Item→St Ty→EvR,run tb C U J Rt 4096 k s=r):Ends C U Rt k s r:=
 ⟨1,fun n=>(walk_succ.trans (h _))⟩
theorem Goes.loop {α:Type} (st:α→St Ty) (Inv Fin:α→Prop) (m:α→Nat)
  (h: ∀x,Inv x→ ¬Fin x→ ∃y,Inv y∧m y<m x∧Goes C U Rt k (st x) k (st y)): ∀(n:Nat) (x:α),m x<n→Inv x→ ∃y,Inv y∧Fin y∧Goes C U Rt k (st x) k (st y)
 |0,x,hm,_=>absurd hm (Nat.not_lt_zero _)
 |n+1,x,hm,hx=>by
  by_cases hf:Fin x
  ·exact ⟨x,hx,hf, .refl⟩
  ·obtain ⟨y,hy,hl,g⟩:=h x hx hf
   obtain ⟨z,hz,fz,g2⟩:=Goes.loop st Inv Fin m h n y (by omega) hy
   exact ⟨z,hz,fz,g.trans g2⟩
theorem Goes.upto (st:Nat→St Ty) (N:Nat) (h: ∀i,i<N→Goes C U Rt k (st i) k (st (i+1))): ∀i,i≤N→Goes C U Rt k (st 0) k (st i)
 |0,_=> .refl
 |i+1,hi=>(Goes.upto st N h i (by omega)).trans (h i (by omega))
theorem Ends.at (st:Nat→St Ty) (N:Nat) (P:Nat→Prop) (h: ∀i,i<N→P i→Goes C U Rt k (st i) k (st (i+1))) (he: ∀i,i<N→ ¬P i→Ends C U Rt k (st i) r):
  ∀(m i:Nat),i+m=N→(∃j,i≤j∧j<N∧ ¬P j)→Ends C U Rt k (st i) r
 |0,i,hi,⟨j,h1,h2,_⟩=>by omega
 |m+1,i,hi,⟨j,h1,h2,h3⟩=>by
  by_cases hp:P i
  ·refine (h i (by omega) hp).ends (Ends.at st N P h he m (i+1) (by omega) ⟨j,?_,h2,h3⟩)
   rcases Nat.eq_or_lt_of_le h1 with e|e
   ·subst e;exact absurd hp h3
   ·exact e
  ·exact he i (by omega) hp
end
theorem wrap_nat {x:Int} {n:Nat} (h:x=n) (hn:n≤9223372036854775807):IntKind.i64.wrap x=(n:Int):=by subst h;exact wrap_up (by omega)
end Go.Proofs.Ytggibjbcbicpjaa.Ev
namespace Go.Proofs.Ytggibjbcbicpjaa.Ev
open Go
noncomputable def b29:Code:=bodyOf Try.f29
def C29:Cfg Ty:=⟨fun _=>none,fun _=>false,26,0⟩
def U29:Cuts:=⟨fun
 |0=>some []
 |_=>none,fun
 |0=>some [(0,none),(1,none),(5,none)]
 |_=>none,fun _=>none⟩
noncomputable def k29_j0:List Item:=[.code (sndC (sndC (sndC b29)))]
noncomputable def k29_l0:List Item:=[.code (inC (inC (sndC (fstC (sndC (sndC b29)))))), .inLoop (inC (inC (sndC (fstC (sndC (sndC b29)))))), .inBlock 0, .code (sndC (sndC (sndC b29)))]
noncomputable def R29 (a b:List Int):St Ty→Option (AV Ty×List (AV Ty)):=resT tb C29 Try.f29.results.toList .keep [.sl false 3 a, .sl false 3 b]
section
variable (J:List Item→St Ty→Option (AV Ty×List (AV Ty))) (a b:List Int) (i:Int)
theorem e29:run tb C29 U29 J (R29 a b) 4096 [.code b29] ⟨slotsA [.sl false 3 a, .sl false 3 b] 0 0,heapA [.sl false 3 a, .sl false 3 b]⟩=
  if ((a.length:Int) != b.length)=true then some (.v (.bool false),[.dead, .dead]) else J k29_l0 ⟨[(0, .sl false 3 a),(1, .sl false 3 b),(5, .v (.int .i64 0))],[]⟩:=by kernel_rfl
theorem e29_l0:run tb C29 U29 J (R29 a b) 4096 k29_l0 ⟨[(0, .sl false 3 a),(1, .sl false 3 b),(5, .v (.int .i64 i))],[]⟩=
  if decide (i<a.length)=true then
   if 0≤i then
    if i<a.length then
     if 0≤i then
      if i<b.length then
       if (a.getD i.toNat 0 != b.getD i.toNat 0)=true then some (.v (.bool false),[.dead, .dead])
       else J k29_l0 ⟨[(0, .sl false 3 a),(1, .sl false 3 b),(5, .v (.int .i64 (IntKind.i64.wrap (i+1))))],[]⟩
      else none
     else none
    else none
   else none
  else J k29_j0 ⟨[],[]⟩:=by kernel_rfl
theorem e29_j0:run tb C29 U29 J (R29 a b) 4096 k29_j0 ⟨[],[]⟩=some (.v (.bool true),[.dead, .dead]):=by kernel_rfl
end
theorem l29 (a b:List Int) (hl:a.length=b.length) (hb:a.length≤4611686018427387904): ∀(m i:Nat),i+m=a.length→ ∃n,walk tb C29 U29 (R29 a b) n k29_l0 ⟨[(0, .sl false 3 a),(1, .sl false 3 b),(5, .v (.int .i64 i))],[]⟩=some (.v (.bool (decide (a.drop i=b.drop i))),[.dead, .dead])
 |0,i,h=>by
  refine ⟨2,?_⟩
  rw [walk_succ,e29_l0,if_neg (by simp;omega),walk_succ,e29_j0,List.drop_eq_nil_of_le (by omega),List.drop_eq_nil_of_le (by omega)]
  rfl
 |m+1,i,h=>by
  have ha:i<a.length:=by omega
  have hb':i<b.length:=by omega
  have key:a.drop i=b.drop i↔a[i]=b[i]∧a.drop (i+1)=b.drop (i+1):=by
   rw [List.drop_eq_getElem_cons ha,List.drop_eq_getElem_cons hb',List.cons.injEq]
  by_cases e:a[i]=b[i]
  ·obtain ⟨n,hn⟩:=l29 a b hl hb m (i+1) (by omega)
   refine ⟨n+1,?_⟩
   rw [walk_succ,e29_l0,if_pos (by simp;omega),if_pos (by omega),if_pos (by omega),if_pos (by omega),if_pos (by omega),if_neg (by simp [ha,hb',e]),wrap_up (by omega)]
   rw [show ((i:Int)+1)=((i+1:Nat):Int) by omega,hn,decide_eq_decide.2 (key.trans (and_iff_right e))]
  ·refine ⟨1,?_⟩
   rw [walk_succ,e29_l0,if_pos (by simp;omega),if_pos (by omega),if_pos (by omega),if_pos (by omega),if_pos (by omega),if_pos (by simp [ha,hb',e]),decide_eq_false fun h=>e (key.1 h).1]
theorem ints_ok (a b:List Int) (hb:a.length≤4611686018427387904):CallOk tb Try.prog 29 [.sl false 3 a, .sl false 3 b] (.v (.bool (decide (a=b)))) [.dead, .dead]:=by
 have: ∃n,evalF tb C29 U29 n b29 Try.f29.results.toList .keep [.sl false 3 a, .sl false 3 b]=some (.v (.bool (decide (a=b))),[.dead, .dead]):=by
  by_cases hl:a.length=b.length
  ·obtain ⟨n,hn⟩:=l29 a b hl hb a.length 0 (by omega)
   refine ⟨n+1,?_⟩
   exact (e29 _ a b).trans ((if_neg (by simp [hl])).trans hn)
  ·refine ⟨1,(e29 _ a b).trans ((if_pos (by simp;omega)).trans ?_)⟩
   rw [decide_eq_false fun h=>hl (by rw [h])]
 obtain ⟨n,h⟩:=this
 exact fn_ok tbOk good (fun f mu S h=>by cases h) mixed (fn:=Try.f29) (body:=b29) (by kernel_rfl) (by kernel_rfl) rfl rfl (by show 2≤26;omega) h
end Go.Proofs.Ytggibjbcbicpjaa.Ev
namespace Go.Proofs.Ytggibjbcbicpjaa.Ev
open Go
def same3 (a b:List Int):Bool:=decide (a=b)
def S29:List (AV Ty)→T (AV Ty×List (AV Ty))
 |[.sl false 3 a, .sl false 3 b]=> .ite (a.length≤4611686018427387904) inferInstance (.ret (.v (.bool (same3 a b)),[.dead, .dead])) .fail
 |_=> .fail
theorem S29_ok (l:List (AV Ty)) (r:AV Ty) (outs:List (AV Ty)) (h:(S29 l).val=some (r,outs)):CallOk tb Try.prog 29 l r outs:=by
 unfold S29 at h
 split at h
 ·rename_i a b
  rcases ite_val h with ⟨e,h⟩|⟨_,h⟩
  ·cases h
   exact ints_ok a b e
  ·cases h
 ·cases h
theorem in29: ∃fn c,Try.prog.funcs[29]? =some fn∧(fn.name == "runtime.NumGoroutine")=false∧fn.body=some c:=⟨Try.f29,b29,by kernel_rfl,by kernel_rfl,by kernel_rfl⟩
end Go.Proofs.Ytggibjbcbicpjaa.Ev
namespace Go.Proofs.Ytggibjbcbicpjaa.Ev
open Go
noncomputable def b78:Code:=bodyOf Try.f78
def C78:Cfg Ty:=⟨fun
 |29=>some ([],S29)
 |_=>none,fun _=>false,52,0⟩
def U78:Cuts:=⟨fun _=>none,fun _=>none,fun _=>none⟩
def insA (a:Ev.Ins):AV Ty:= .agg ((codA 46).enc false a)
noncomputable def R78 (a b:Ev.Ins):St Ty→Option (AV Ty×List (AV Ty)):=resT tb C78 Try.f78.results.toList .keep [insA a,insA b]
theorem e78 (J:List Item→St Ty→Option (AV Ty×List (AV Ty))) (a b:Ev.Ins):run tb C78 U78 J (R78 a b) 4096 [.code b78] ⟨slotsA [insA a,insA b] 0 0,heapA [insA a,insA b]⟩=
  if (a.1 == b.1)=true then
   if (a.2 == b.2)=true then
    if (a.3 == b.3)=true then
     if (a.4 == b.4)=true then
      if (a.5 == b.5)=true then
       if a.6.length≤4611686018427387904 then
        if same3 a.6 b.6=true then
         if a.7.length≤4611686018427387904 then some (.v (.bool (same3 a.7 b.7)),[.dead, .dead]) else none
        else some (.v (.bool false),[.dead, .dead])
       else none
      else some (.v (.bool false),[.dead, .dead])
     else some (.v (.bool false),[.dead, .dead])
    else some (.v (.bool false),[.dead, .dead])
   else some (.v (.bool false),[.dead, .dead])
  else some (.v (.bool false),[.dead, .dead]):=by kernel_rfl
def sameIns (a b:Ev.Ins):Bool:=a.1 == b.1 && a.2 == b.2 && a.3 == b.3 && a.4 == b.4 && a.5 == b.5 && same3 a.6 b.6 && same3 a.7 b.7
theorem sameIns_ok (a b:Ev.Ins) (h6:a.6.length≤4611686018427387904) (h7:a.7.length≤4611686018427387904):CallOk tb Try.prog 78 [insA a,insA b] (.v (.bool (sameIns a b))) [.dead, .dead]:=by
 have h:evalF tb C78 U78 1 b78 Try.f78.results.toList .keep [insA a,insA b]=some (.v (.bool (sameIns a b)),[.dead, .dead]):=by
  refine (e78 _ a b).trans ?_
  unfold sameIns
  cases a.1 == b.1<;>cases a.2 == b.2<;>cases a.3 == b.3<;>cases a.4 == b.4<;>cases a.5 == b.5<;>cases same3 a.6 b.6<;>simp [h6,h7]
 refine fn_ok tbOk good (fun f mu S h=> ?_) mixed (fn:=Try.f78) (body:=b78) (by kernel_rfl) (by kernel_rfl) rfl rfl (by show 2≤52;omega) h
 unfold C78 at h
 simp only at h
 split at h
 ·cases h;exact ⟨in29,S29_ok⟩
 ·cases h
end Go.Proofs.Ytggibjbcbicpjaa.Ev
namespace Go.Proofs.Ytggibjbcbicpjaa.Ev
open Go
def S78:List (AV Ty)→T (AV Ty×List (AV Ty))
 |[.agg x, .agg y]=>match cod46.dec false x,cod46.dec false y with
  |some a,some b=> .ite (a.6.length≤4611686018427387904∧a.7.length≤4611686018427387904) inferInstance (.ret (.v (.bool (sameIns a b)),[.dead, .dead])) .fail
  |_,_=> .fail
 |_=> .fail
theorem S78_ok (l:List (AV Ty)) (r:AV Ty) (outs:List (AV Ty)) (h:(S78 l).val=some (r,outs)):CallOk tb Try.prog 78 l r outs:=by
 unfold S78 at h
 split at h
 ·rename_i x y
  split at h
  ·rename_i a b e1 e2
   rcases ite_val h with ⟨e,h⟩|⟨_,h⟩
   ·cases h
    have h1:=cod46_ok.dec false x a e1
    have h2:=cod46_ok.dec false y b e2
    subst h1 h2
    exact sameIns_ok a b e.1 e.2
   ·cases h
  ·cases h
 ·cases h
theorem in78: ∃fn c,Try.prog.funcs[78]? =some fn∧(fn.name == "runtime.NumGoroutine")=false∧fn.body=some c:=⟨Try.f78,b78,by kernel_rfl,by kernel_rfl,by kernel_rfl⟩
end Go.Proofs.Ytggibjbcbicpjaa.Ev
namespace Go.Proofs.Ytggibjbcbicpjaa.Ev
open Go
set_option linter.unusedVariables false
set_option linter.unusedSimpArgs false
noncomputable def b80:Code:=bodyOf Try.f80
noncomputable def C80:Cfg Ty:=⟨fun _=>none,fun
 |2=>true
 |5=>true
 |7=>true
 |_=>false,8,0⟩
def U80:Cuts:=⟨fun _=>none,fun _=>none,fun _=>none⟩
def a80 (l:List Int):List (AV Ty):=[.sl false (3:Nat) l]
noncomputable def R80 (l:List Int):St Ty→EvR:=resT tb C80 Try.f80.results.toList (.own 3) (a80 l)
theorem e80 (J l):run tb C80 U80 J (R80 l) 4096 [.code b80] ⟨slotsA (a80 l) 0 0,heapA (a80 l)⟩=
 if 0<l.length then
 if ([]:List Int).length+l.length+1≤549755813888∧(([]:List Int).length+l.length+1)*8≤549755813888 then
 some (.sl true 3 ([]++l),[.dead])
 else none
 else none:=by kernel_rfl

theorem in80:Entered 80:=⟨Try.f80,b80,by kernel_rfl,by kernel_rfl,by kernel_rfl⟩
theorem fn80 (l:List Int) {res:AV Ty} {outs:List (AV Ty)} (h:Ends C80 U80 (R80 l) [.code b80] ⟨slotsA (a80 l) 0 0,heapA (a80 l)⟩ (some (res,outs))):CallOk tb Try.prog 80 (a80 l) res outs:=by
 obtain ⟨n0,hn⟩:=h
 exact fn_ok (C:=C80) (U:=U80) (n:=0+n0) (q:=(.own 3)) tbOk good (fun f mu S h=>by cases h) mixed (fn:=Try.f80) (body:=b80) (by kernel_rfl) (by kernel_rfl) rfl rfl (by show 1≤8;omega) (hn 0)
theorem clone_nil (A:Option Addr) (c:Nat):CallOk tb Try.prog 80 [.v (.slice A 0 c)] (.sl true 3 []) [.dead]:=by
 have h:evalF tb C80 U80 1 b80 Try.f80.results.toList (.own 3) [.v (.slice A 0 c)]=some (.sl true 3 [],[.dead]):=by
  cases A
  ·kernel_rfl
  ·kernel_rfl
 exact fn_ok (C:=C80) (U:=U80) (n:=1) (q:= .own 3) tbOk good (fun f mu S h=>by cases h) mixed (fn:=Try.f80) (body:=b80) (by kernel_rfl) (by kernel_rfl) rfl rfl (by show 1≤8;omega) h
theorem one_at {α:Type} {l:List α} (h:l.length=1): ∃v,l=[v]:=by
 match l,h with
 |[v],_=>exact ⟨v,rfl⟩
theorem clone_ok (l:List Int) (h:l.length≤1000000):CallOk tb Try.prog 80 (a80 l) (.sl true 3 l) [.dead]:=by
 by_cases hl:0<l.length
 ·refine fn80 l (.step fun J=> ?_)
  rw [e80]
  simp (disch:=first|omega|assumption|(rw [dT];omega)|(rw [dF];omega)) only [↓iP,↓iN,iT,iF,wrap_up,tN,Nat.zero_add,List.nil_append,List.length_nil]
  rfl
 ·have:l=[]:=by cases l with
   |nil=>rfl
   |cons x l=>simp at hl
  subst this
  refine ⟨fun _=> ?_,fun g e h=>(by cases e;cases h),MapOk.no rfl⟩
  intro W F X vs sets caps hA
  obtain ⟨v,rfl⟩:=one_at hA.len
  have hr:=hA.rep 0 v _ rfl rfl (fun m t x e=>by cases e)
  obtain ⟨A,c,rfl⟩: ∃A c,v= .slice A 0 c:=by
   cases hr with
   |nil A c t=>exact ⟨A,c,rfl⟩
   |sl b off c t xs g h1 h2 h3=>exact ⟨_,c,rfl⟩
  refine Calls.mono ((clone_nil A c).1 rfl W F X [.slice A 0 c] sets caps ⟨rfl,hA.fb,fun i w a e1 e2 e3=> ?_,fun i w m t x e1 e2=> ?_,hA.dj,hA.inX,fun b j hx=> ?_⟩) fun e w' he=> ?_
  rotate_right
  ·obtain ⟨v,S,F',s',k1,k2,k3,k4,k5,k6,k7,k8,k9,k10⟩:=he
   exact ⟨v,S,F',s',k1,k2,k3,k4,k5,k6,k7,k8,fun i m t x b off e=>by
    cases i with
    |zero=>cases e
    |succ i=>simp [a80] at e,k10⟩
  ·cases i with
   |zero=>cases e1;cases e2;exact .v _
   |succ i=>simp at e1
  ·cases i with
   |zero=>cases e2
   |succ i=>simp at e1
  ·obtain ⟨i,m,t,x,e,_⟩:=hA.X b j hx
   cases i with
   |zero=>cases e
   |succ i=>simp [a80] at e
def S80:List (AV Ty)→T (AV Ty×List (AV Ty))
 |[.sl false 3 l]=> .ite (l.length≤1000000) inferInstance (.ret (.sl true 3 l,[.dead])) .fail
 |_=> .fail
theorem S80_ok (l:List (AV Ty)) (r:AV Ty) (outs:List (AV Ty)) (h:(S80 l).val=some (r,outs)):CallOk tb Try.prog 80 l r outs:=by
 unfold S80 at h
 split at h
 ·rcases ite_val h with ⟨e,h⟩|⟨_,h⟩
  ·cases h;exact clone_ok _ e
  ·cases h
 ·cases h
end Go.Proofs.Ytggibjbcbicpjaa.Ev
namespace Go.Proofs.Ytggibjbcbicpjaa.Ev
open Go
set_option linter.unusedVariables false
set_option linter.unusedSimpArgs false
noncomputable def b131:Code:=bodyOf Try.f131
noncomputable def C131:Cfg Ty:=⟨fun
 |80=>some ([],S80)
 |_=>none,fun
 |1=>true
 |2=>true
 |300001=>true
 |400011=>true
 |_=>false,12,0⟩
def U131:Cuts:=⟨fun _=>none,fun _=>none,fun _=>none⟩
def a131 (i:Ins):List (AV Ty):=[.agg [.v (.int .i64 i.op), .v (.int .i64 i.type_), .v (.int .i64 i.to_), .v (.int .i64 i.sym_), .v (.int .i64 i.num), .sl false (3:Nat) i.args, .sl false (3:Nat) i.into]]
noncomputable def R131 (i:Ins):St Ty→EvR:=resT tb C131 Try.f131.results.toList .keep (a131 i)
theorem e131 (J i):run tb C131 U131 J (R131 i) 4096 [.code b131] ⟨slotsA (a131 i) 0 0,heapA (a131 i)⟩=
 if i.args.length≤1000000 then
 if i.into.length≤1000000 then
 some (.agg [.v (.int .i64 i.op), .v (.int .i64 i.type_), .v (.int .i64 i.to_), .v (.int .i64 i.sym_), .v (.int .i64 i.num), .sl true 3 i.args, .sl true 3 i.into],[.dead])
 else none
 else none:=by kernel_rfl

theorem in131:Entered 131:=⟨Try.f131,b131,by kernel_rfl,by kernel_rfl,by kernel_rfl⟩
theorem fn131 (i:Ev.Ins) {res:AV Ty} {outs:List (AV Ty)} (h:Ends C131 U131 (R131 i) [.code b131] ⟨slotsA (a131 i) 0 0,heapA (a131 i)⟩ (some (res,outs))):CallOk tb Try.prog 131 (a131 i) res outs:=by
 obtain ⟨n0,hn⟩:=h
 exact fn_ok (C:=C131) (U:=U131) (n:=0+n0) (q:= .keep) tbOk good (fun f mu S h=>by
  unfold C131 at h
  simp only at h
  split at h
  ·cases h;exact ⟨in80,S80_ok⟩
  ·cases h) mixed (fn:=Try.f131) (body:=b131) (by kernel_rfl) (by kernel_rfl) rfl rfl (by show 1≤12;omega) (hn 0)
def insS (q:Bool) (i:Ev.Ins):AV Ty:= .agg [.v (.int .i64 i.op), .v (.int .i64 i.type_), .v (.int .i64 i.to_), .v (.int .i64 i.sym_), .v (.int .i64 i.num), .sl q 3 i.args, .sl q 3 i.into]
def okIns (i:Ev.Ins):Prop:=i.args.length≤1000∧i.into.length≤1000
instance okIns.dec (i:Ev.Ins):Decidable (okIns i):=by unfold okIns;infer_instance
theorem copyIns_ok (i:Ev.Ins) (h:okIns i):CallOk tb Try.prog 131 (a131 i) (insS true i) [.dead]:=by
 obtain ⟨h1,h2⟩:=h
 refine fn131 i (.step fun J=> ?_)
 rw [e131]
 simp (disch:=first|omega|assumption|(rw [dT];omega)|(rw [dF];omega)) only [↓iP,↓iN,iT,iF,wrap_up,tN,Nat.zero_add]
 rfl
def S131:List (AV Ty)→T (AV Ty×List (AV Ty))
 |[.agg x]=>match cod46.dec false x with
  |some i=> .ite (okIns i) (okIns.dec i) (.ret (.agg [.v (.int .i64 i.op), .v (.int .i64 i.type_), .v (.int .i64 i.to_), .v (.int .i64 i.sym_), .v (.int .i64 i.num), .sl true 3 i.args, .sl true 3 i.into],[.dead])) .fail
  |none=> .fail
 |_=> .fail
theorem S131_ok (l:List (AV Ty)) (r:AV Ty) (outs:List (AV Ty)) (h:(S131 l).val=some (r,outs)):CallOk tb Try.prog 131 l r outs:=by
 unfold S131 at h
 split at h
 ·rename_i x
  split at h
  ·rename_i i e1
   rcases ite_val h with ⟨e,h⟩|⟨_,h⟩
   ·cases h
    have h1:=cod46_ok.dec false x i e1
    subst h1
    exact copyIns_ok i e
   ·cases h
  ·cases h
 ·cases h
end Go.Proofs.Ytggibjbcbicpjaa.Ev
namespace Go.Proofs.Ytggibjbcbicpjaa.Ev
open Go
set_option linter.unusedVariables false
set_option linter.unusedSimpArgs false
def szT (l:List Ev.Block):Nat:=(l.map fun b=>b.ins.length).sum
def tyI (l:List Ev.Ins):List Int:=(l.filter fun i=>i.type_ != 0).map fun i=>i.type_
def tyB (l:List Ev.Block):List Int:=(l.map fun b=>tyI b.ins).flatten
def typesOf (f:Ev.Func):List Int:=[0]++f.params++tyB f.blocks
def okBl (b:Ev.Block):Prop:=b.ins.length≤1000∧ ∀i,i∈b.ins→okIns i
def okF (f:Ev.Func):Prop:=f.params.length≤1000∧f.blocks.length≤1000∧ ∀b,b∈f.blocks→okBl b
instance okBl.dec (b:Ev.Block):Decidable (okBl b):=by unfold okBl;infer_instance
instance okF.dec (f:Ev.Func):Decidable (okF f):=by unfold okF;infer_instance
theorem take_step {α:Type} {l:List α} {d:α} {i:Nat} (h:i<l.length):l.take (i+1)=l.take i++[l.getD i d]:=by
 rw [List.take_add_one,List.getD_eq_getElem?_getD,List.getElem?_eq_getElem h]
 rfl
theorem getD_mem {α:Type} {l:List α} {d:α} {i:Nat} (h:i<l.length):l.getD i d∈l:=by
 rw [List.getD_eq_getElem?_getD,List.getElem?_eq_getElem h]
 exact List.getElem_mem h
theorem sum_le {l:List Ev.Block} {n:Nat} (h: ∀b,b∈l→b.ins.length≤n):szT l≤l.length*n:=by
 induction l with
 |nil=>simp [szT]
 |cons b l ih=>
  have:=ih fun x hx=>h x (List.mem_cons_of_mem _ hx)
  have h2:=h b List.mem_cons_self
  simp only [szT,List.map_cons,List.sum_cons,List.length_cons,Nat.succ_mul] at this⊢
  omega
theorem szT_step {l:List Ev.Block} {i:Nat} (h:i<l.length):szT (l.take (i+1))=szT (l.take i)+(l.getD i (Block.mk [])).ins.length:=by
 rw [take_step (d:=(Block.mk [])) h]
 simp [szT]
theorem tyI_step {l:List Ev.Ins} {i:Nat} (h:i<l.length):tyI (l.take (i+1))=tyI (l.take i)++(if (l.getD i (Ins.mk 0 0 0 0 0 [] [])).type_ != 0 then [(l.getD i (Ins.mk 0 0 0 0 0 [] [])).type_] else []):=by
 rw [take_step (d:=(Ins.mk 0 0 0 0 0 [] [])) h]
 simp only [tyI,List.filter_append,List.map_append,List.filter_cons,List.filter_nil]
 by_cases h:((l.getD i (Ins.mk 0 0 0 0 0 [] [])).type_ != 0)=true
 ·rw [if_pos h,if_pos h];rfl
 ·rw [if_neg h,if_neg h];rfl
theorem tyB_step {l:List Ev.Block} {i:Nat} (h:i<l.length):tyB (l.take (i+1))=tyB (l.take i)++tyI (l.getD i (Block.mk [])).ins:=by
 rw [take_step (d:=(Block.mk [])) h]
 simp [tyB]
theorem tyI_le (l:List Ev.Ins):(tyI l).length≤l.length:=by
 rw [tyI,List.length_map]
 exact List.length_filter_le _ _
theorem tyB_le (l:List Ev.Block):(tyB l).length≤szT l:=by
 induction l with
 |nil=>simp [tyB,szT]
 |cons b l ih=>
  have:=tyI_le b.ins
  simp only [tyB,szT,List.map_cons,List.flatten_cons,List.sum_cons,List.length_append] at ih⊢
  omega
section
variable {f:Ev.Func}
theorem okF.blk (h:okF f) {i:Nat} (hi:i<f.blocks.length):okBl (f.blocks.getD i (Block.mk [])):=h.2.2 _ (getD_mem hi)
theorem okF.szt (h:okF f) (i:Nat):szT (f.blocks.take i)≤1000000:=by
 have:=sum_le (l:=f.blocks.take i) (n:=1000) fun b hb=>(h.2.2 b (List.mem_of_mem_take hb)).1
 have h2:(f.blocks.take i).length≤1000:=by rw [List.length_take];have:=h.2.1;omega
 have:=Nat.mul_le_mul_right 1000 h2
 omega
theorem okF.sz (h:okF f):szT f.blocks≤1000000:=by
 have:=h.szt f.blocks.length
 rwa [List.take_length] at this
end
noncomputable def b51:Code:=bodyOf Try.f51
def C51:Cfg Ty:=⟨fun _=>none,fun _=>false,20,0⟩
def U51:Cuts:=⟨fun
 |0=>some [(3,none)]
 |_=>none,fun
 |0=>some [(3,none),(7,none),(8,none),(9,none)]
 |_=>none,fun _=>none⟩
noncomputable def k51_j0:List Item:=[.code (sndC (sndC (sndC b51)))]
noncomputable def k51_l0:List Item:=[.code (inC (inC (sndC (fstC (sndC (sndC b51)))))), .inLoop (inC (inC (sndC (fstC (sndC (sndC b51)))))), .inBlock 0, .code (sndC (sndC (sndC b51)))]
def a51 (f:Func):List (AV Ty):=[.agg [.v (.string f.name), .v (.bool f.out), .sl false (3:Nat) f.params, .v (.int .i64 f.result), .sl false (44:Nat) f.blocks]]
noncomputable def R51 (f:Func):St Ty→EvR:=resT tb C51 Try.f51.results.toList .keep (a51 f)
def s51_l0 (f:Func) (v3:Int) (v7:List Block) (v8:Int) (v9:Int):St Ty:=St.mk [(3, .v (.int .i64 v3)),(7, .sl false (44) v7),(8, .v (.int .i64 v8)),(9, .v (.int .i64 v9))] []
def s51_j0 (f:Func) (v3:Int):St Ty:=St.mk [(3, .v (.int .i64 v3))] []
theorem e51 (J f):run tb C51 U51 J (R51 f) 4096 [.code b51] ⟨slotsA (a51 f) 0 0,heapA (a51 f)⟩=
 J k51_l0 (s51_l0 f 0 f.blocks ((↑f.blocks.length:Int)) 0):=by kernel_rfl
theorem e51_l0 (J f v3 v7 v8 v9):run tb C51 U51 J (R51 f) 4096 k51_l0 (s51_l0 f v3 v7 v8 v9)=
 if decide (v9<v8)=true then
 if 0≤v9 then
 if v9<(↑v7.length:Int) then
 J k51_l0 (s51_l0 f (IntKind.i64.wrap (v3+(↑(v7.getD v9.toNat (Block.mk [])).ins.length:Int))) v7 v8 (IntKind.i64.wrap (v9+1)))
 else none
 else none
 else
 J k51_j0 (s51_j0 f v3):=by kernel_rfl
theorem e51_j0 (J f v3):run tb C51 U51 J (R51 f) 4096 k51_j0 (s51_j0 f v3)=
 some (.v (.int .i64 v3),[.dead]):=by kernel_rfl

theorem in51:Entered 51:=⟨Try.f51,b51,by kernel_rfl,by kernel_rfl,by kernel_rfl⟩
theorem fn51 (f:Ev.Func) {res:AV Ty} {outs:List (AV Ty)} (h:Ends C51 U51 (R51 f) [.code b51] ⟨slotsA (a51 f) 0 0,heapA (a51 f)⟩ (some (res,outs))):CallOk tb Try.prog 51 (a51 f) res outs:=by
 obtain ⟨n0,hn⟩:=h
 exact fn_ok (C:=C51) (U:=U51) (n:=0+n0) (q:= .keep) tbOk good (fun f mu S h=>by cases h) mixed (fn:=Try.f51) (body:=b51) (by kernel_rfl) (by kernel_rfl) rfl rfl (by show 1≤20;omega) (hn 0)
theorem size_ok (f:Ev.Func) (h:okF f):CallOk tb Try.prog 51 (a51 f) (.v (.int .i64 (szT f.blocks))) [.dead]:=by
 refine fn51 f (Goes.ends (.step fun J=>e51 J f) ?_)
 have hb:=h.2.1
 have step: ∀i,i<f.blocks.length→Goes C51 U51 (R51 f) k51_l0 (s51_l0 f (szT (f.blocks.take i)) f.blocks f.blocks.length i) k51_l0 (s51_l0 f (szT (f.blocks.take (i+1))) f.blocks f.blocks.length (i+1:Nat)):=fun i hi=> .step fun J=>by
  have h1:=h.szt (i+1)
  have h2:=szT_step hi
  have h3:=(h.blk hi).1
  rw [e51_l0,h2]
  simp (disch:=first|omega|assumption|(rw [dT];omega)|(rw [dF];omega)) only [↓iP,↓iN,iT,iF,wrap_up,tN,Nat.zero_add]
  rfl
 refine Goes.ends (Goes.upto (fun i=>s51_l0 f (szT (f.blocks.take i)) f.blocks f.blocks.length i) f.blocks.length step _ (Nat.le_refl _)) ?_
 refine Goes.ends (k':=k51_j0) (s':=s51_j0 f (szT f.blocks)) (.step fun J=> ?_) (.step fun J=>e51_j0 J f _)
 rw [e51_l0]
 simp (disch:=first|omega|assumption|(rw [dT];omega)|(rw [dF];omega)) only [↓iP,↓iN,iT,iF,wrap_up,tN,Nat.zero_add,List.take_length]
noncomputable def b28:Code:=bodyOf Try.f28
def C28:Cfg Ty:=⟨fun _=>none,fun _=>false,22,0⟩
def U28:Cuts:=⟨fun
 |0=>some [(3,none)]
 |_=>none,fun
 |0=>some [(1,none),(3,none),(4,none)]
 |_=>none,fun _=>none⟩
noncomputable def k28_j0:List Item:=[.code (sndC (sndC (sndC b28)))]
noncomputable def k28_l0:List Item:=[.code (inC (inC (sndC (fstC (sndC (sndC b28)))))), .inLoop (inC (inC (sndC (fstC (sndC (sndC b28)))))), .inBlock 0, .code (sndC (sndC (sndC b28)))]
def a28 (f:Func):List (AV Ty):=[.agg [.v (.string f.name), .v (.bool f.out), .sl false (3:Nat) f.params, .v (.int .i64 f.result), .sl false (44:Nat) f.blocks]]
noncomputable def R28 (f:Func):St Ty→EvR:=resT tb C28 Try.f28.results.toList .keep (a28 f)
def s28_l0 (f:Func) (v3:Int) (v4:Int) (h0:List Func):St Ty:=St.mk [(1, .ptr (0) [] (0) (0)),(3, .v (.int .i64 v3)),(4, .v (.int .i64 v4))] [some (Root.mk (33) false h0)]
def s28_j0 (f:Func) (v3:Int):St Ty:=St.mk [(3, .v (.int .i64 v3))] []
theorem e28 (J f):run tb C28 U28 J (R28 f) 4096 [.code b28] ⟨slotsA (a28 f) 0 0,heapA (a28 f)⟩=
 J k28_l0 (s28_l0 f 0 0 ([Func.mk f.name f.out f.params f.result f.blocks])):=by kernel_rfl
theorem e28_l0 (J f v3 v4 h0):run tb C28 U28 J (R28 f) 4096 k28_l0 (s28_l0 f v3 v4 h0)=
 if decide (v4<(↑(h0.getD (0) (Func.mk ByteArray.empty false [] 0 [])).blocks.length:Int))=true then
 if 0≤v4 then
 if v4<(↑(h0.getD (0) (Func.mk ByteArray.empty false [] 0 [])).blocks.length:Int) then
 J k28_l0 (s28_l0 f (IntKind.i64.wrap (v3+(↑((h0.getD (0) (Func.mk ByteArray.empty false [] 0 [])).blocks.getD v4.toNat (Block.mk [])).ins.length:Int))) (IntKind.i64.wrap (v4+1)) h0)
 else none
 else none
 else
 J k28_j0 (s28_j0 f v3):=by kernel_rfl
theorem e28_j0 (J f v3):run tb C28 U28 J (R28 f) 4096 k28_j0 (s28_j0 f v3)=
 some (.v (.int .i64 v3),[.dead]):=by kernel_rfl

theorem in28:Entered 28:=⟨Try.f28,b28,by kernel_rfl,by kernel_rfl,by kernel_rfl⟩
theorem fn28 (f:Ev.Func) {res:AV Ty} {outs:List (AV Ty)} (h:Ends C28 U28 (R28 f) [.code b28] ⟨slotsA (a28 f) 0 0,heapA (a28 f)⟩ (some (res,outs))):CallOk tb Try.prog 28 (a28 f) res outs:=by
 obtain ⟨n0,hn⟩:=h
 exact fn_ok (C:=C28) (U:=U28) (n:=0+n0) (q:= .keep) tbOk good (fun f mu S h=>by cases h) mixed (fn:=Try.f28) (body:=b28) (by kernel_rfl) (by kernel_rfl) rfl rfl (by show 1≤22;omega) (hn 0)
theorem rsize_ok (f:Ev.Func) (h:okF f):CallOk tb Try.prog 28 (a28 f) (.v (.int .i64 (szT f.blocks))) [.dead]:=by
 refine fn28 f (Goes.ends (.step fun J=>e28 J f) ?_)
 have hb:=h.2.1
 have step: ∀i,i<f.blocks.length→Goes C28 U28 (R28 f) k28_l0 (s28_l0 f (szT (f.blocks.take i)) i [f]) k28_l0 (s28_l0 f (szT (f.blocks.take (i+1))) (i+1:Nat) [f]):=fun i hi=> .step fun J=>by
  have h1:=h.szt (i+1)
  have h2:=szT_step hi
  have h3:=(h.blk hi).1
  rw [e28_l0,h2]
  simp only [List.getD_cons_zero,Int.toNat_natCast]
  simp (disch:=first|omega|assumption|(rw [dT];omega)|(rw [dF];omega)) only [↓iP,↓iN,iT,iF,wrap_up,tN,Nat.zero_add]
  rfl
 refine Goes.ends (Goes.upto (fun i=>s28_l0 f (szT (f.blocks.take i)) i [f]) f.blocks.length step _ (Nat.le_refl _)) ?_
 refine Goes.ends (k':=k28_j0) (s':=s28_j0 f (szT f.blocks)) (.step fun J=> ?_) (.step fun J=>e28_j0 J f _)
 rw [e28_l0]
 simp only [List.getD_cons_zero,Int.toNat_natCast]
 simp (disch:=first|omega|assumption|(rw [dT];omega)|(rw [dF];omega)) only [↓iP,↓iN,iT,iF,wrap_up,tN,Nat.zero_add,List.take_length]
noncomputable def b52:Code:=bodyOf Try.f52
noncomputable def C52:Cfg Ty:=⟨fun _=>none,fun
 |3=>true
 |8=>true
 |11=>true
 |33=>true
 |32=>true
 |2=>true
 |_=>false,37,0⟩
def U52:Cuts:=⟨fun
 |0=>some [(3,some 3)]
 |1=>some [(3,some 3),(13,none),(14,none),(15,none)]
 |2=>some [(3,some 3),(13,none),(14,none),(15,none)]
 |_=>none,fun
 |0=>some [(3,some 3),(13,none),(14,none),(15,none)]
 |2=>some [(3,some 3),(13,none),(14,none),(15,none),(20,none),(21,none),(22,none)]
 |_=>none,fun _=>none⟩
noncomputable def k52_j0:List Item:=[.code (sndC (sndC (sndC b52)))]
noncomputable def k52_l0:List Item:=[.code (inC (inC (sndC (fstC (sndC (sndC b52)))))), .inLoop (inC (inC (sndC (fstC (sndC (sndC b52)))))), .inBlock 0, .code (sndC (sndC (sndC b52)))]
noncomputable def k52_j1:List Item:=[.code (sndC (sndC (sndC (inC (inC (sndC (fstC (sndC (sndC b52))))))))), .inLoop (inC (inC (sndC (fstC (sndC (sndC b52)))))), .inBlock 0, .code (sndC (sndC (sndC b52)))]
noncomputable def k52_j2:List Item:=[.inBlock 1, .code (sndC (sndC (sndC (inC (inC (sndC (fstC (sndC (sndC b52))))))))), .inLoop (inC (inC (sndC (fstC (sndC (sndC b52)))))), .inBlock 0, .code (sndC (sndC (sndC b52)))]
noncomputable def k52_l2:List Item:=[.code (inC (inC (sndC (sndC (inC (fstC (sndC (sndC (inC (inC (sndC (fstC (sndC (sndC b52)))))))))))))), .inLoop (inC (inC (sndC (sndC (inC (fstC (sndC (sndC (inC (inC (sndC (fstC (sndC (sndC b52)))))))))))))), .inBlock 2, .inBlock 1, .code (sndC (sndC (sndC (inC (inC (sndC (fstC (sndC (sndC b52))))))))), .inLoop (inC (inC (sndC (fstC (sndC (sndC b52)))))), .inBlock 0, .code (sndC (sndC (sndC b52)))]
def a52 (f:Func):List (AV Ty):=[.agg [.v (.string f.name), .v (.bool f.out), .sl false (3:Nat) f.params, .v (.int .i64 f.result), .sl false (44:Nat) f.blocks]]
noncomputable def R52 (f:Func):St Ty→EvR:=resT tb C52 Try.f52.results.toList (.own 3) (a52 f)
def s52_l0 (f:Func) (v13:List Block) (v14:Int) (v15:Int) (h0:List Int):St Ty:=St.mk [(3, .ref (0) [] none false),(13, .sl false (44) v13),(14, .v (.int .i64 v14)),(15, .v (.int .i64 v15))] [some (Root.mk (3) true h0)]
def s52_l2 (f:Func) (v13:List Block) (v14:Int) (v15:Int) (v20:List Ins) (v21:Int) (v22:Int) (h0:List Int):St Ty:=St.mk [(3, .ref (0) [] none false),(13, .sl false (44) v13),(14, .v (.int .i64 v14)),(15, .v (.int .i64 v15)),(20, .sl false (46) v20),(21, .v (.int .i64 v21)),(22, .v (.int .i64 v22))] [some (Root.mk (3) true h0)]
def s52_j0 (f:Func) (h0:List Int):St Ty:=St.mk [(3, .ref (0) [] none false)] [some (Root.mk (3) true h0)]
def s52_j2 (f:Func) (v13:List Block) (v14:Int) (v15:Int) (h0:List Int):St Ty:=St.mk [(3, .ref (0) [] none false),(13, .sl false (44) v13),(14, .v (.int .i64 v14)),(15, .v (.int .i64 v15))] [some (Root.mk (3) true h0)]
def s52_j1 (f:Func) (v13:List Block) (v14:Int) (v15:Int) (h0:List Int):St Ty:=St.mk [(3, .ref (0) [] none false),(13, .sl false (44) v13),(14, .v (.int .i64 v14)),(15, .v (.int .i64 v15))] [some (Root.mk (3) true h0)]
theorem e52 (J f):run tb C52 U52 J (R52 f) 4096 [.code b52] ⟨slotsA (a52 f) 0 0,heapA (a52 f)⟩=
 if [0].length+f.params.length+1≤549755813888∧([0].length+f.params.length+1)*8≤549755813888 then
 J k52_l0 (s52_l0 f f.blocks ((↑f.blocks.length:Int)) 0 ([0]++f.params))
 else none:=by kernel_rfl
theorem e52_l0 (J f v13 v14 v15 h0):run tb C52 U52 J (R52 f) 4096 k52_l0 (s52_l0 f v13 v14 v15 h0)=
 if decide (v15<v14)=true then
 if 0≤v15 then
 if v15<(↑v13.length:Int) then
 J k52_l2 (s52_l2 f v13 v14 v15 ((v13.getD v15.toNat (Block.mk [])).ins) ((↑(v13.getD v15.toNat (Block.mk [])).ins.length:Int)) 0 h0)
 else none
 else none
 else
 J k52_j0 (s52_j0 f h0):=by kernel_rfl
theorem e52_l2 (J f v13 v14 v15 v20 v21 v22 h0):run tb C52 U52 J (R52 f) 4096 k52_l2 (s52_l2 f v13 v14 v15 v20 v21 v22 h0)=
 if decide (v22<v21)=true then
 if 0≤v22 then
 if v22<(↑v20.length:Int) then
 if ((v20.getD v22.toNat (Ins.mk 0 0 0 0 0 [] [])).type_ != 0)=true then
 if h0.length+[(v20.getD v22.toNat (Ins.mk 0 0 0 0 0 [] [])).type_].length+1≤549755813888∧(h0.length+[(v20.getD v22.toNat (Ins.mk 0 0 0 0 0 [] [])).type_].length+1)*8≤549755813888 then
 J k52_l2 (s52_l2 f v13 v14 v15 v20 v21 (IntKind.i64.wrap (v22+1)) (h0++[(v20.getD v22.toNat (Ins.mk 0 0 0 0 0 [] [])).type_]))
 else none
 else
 J k52_l2 (s52_l2 f v13 v14 v15 v20 v21 (IntKind.i64.wrap (v22+1)) h0)
 else none
 else none
 else
 J k52_j2 (s52_j2 f v13 v14 v15 h0):=by kernel_rfl
theorem e52_j0 (J f h0):run tb C52 U52 J (R52 f) 4096 k52_j0 (s52_j0 f h0)=
 some (.sl true (3) h0,[.dead]):=by kernel_rfl
theorem e52_j2 (J f v13 v14 v15 h0):run tb C52 U52 J (R52 f) 4096 k52_j2 (s52_j2 f v13 v14 v15 h0)=
 J k52_j1 (s52_j1 f v13 v14 v15 h0):=by kernel_rfl
theorem e52_j1 (J f v13 v14 v15 h0):run tb C52 U52 J (R52 f) 4096 k52_j1 (s52_j1 f v13 v14 v15 h0)=
 J k52_l0 (s52_l0 f v13 v14 (IntKind.i64.wrap (v15+1)) h0):=by kernel_rfl

theorem in52:Entered 52:=⟨Try.f52,b52,by kernel_rfl,by kernel_rfl,by kernel_rfl⟩
theorem fn52 (f:Ev.Func) {res:AV Ty} {outs:List (AV Ty)} (h:Ends C52 U52 (R52 f) [.code b52] ⟨slotsA (a52 f) 0 0,heapA (a52 f)⟩ (some (res,outs))):CallOk tb Try.prog 52 (a52 f) res outs:=by
 obtain ⟨n0,hn⟩:=h
 exact fn_ok (C:=C52) (U:=U52) (n:=0+n0) (q:=(.own 3)) tbOk good (fun f mu S h=>by cases h) mixed (fn:=Try.f52) (body:=b52) (by kernel_rfl) (by kernel_rfl) rfl rfl (by show 1≤37;omega) (hn 0)
section
variable {f:Ev.Func}
theorem okF.tyl (h:okF f) {i k:Nat} (hi:i<f.blocks.length) (hk:k<(f.blocks.getD i (Block.mk [])).ins.length):([0]++f.params++tyB (f.blocks.take i)++tyI ((f.blocks.getD i (Block.mk [])).ins.take k)).length≤2000000:=by
 have h1:=h.szt i
 have h2:=tyB_le (f.blocks.take i)
 have h3:=tyI_le ((f.blocks.getD i (Block.mk [])).ins.take k)
 have h4:=(h.blk hi).1
 have h5:=h.1
 rw [List.length_take] at h3
 simp only [List.length_append,List.length_cons,List.length_nil]
 omega
theorem Types.in (h:okF f) {i:Nat} (hi:i<f.blocks.length) {k:Nat} (hk:k<(f.blocks.getD i (Block.mk [])).ins.length):
  Goes C52 U52 (R52 f) k52_l2 (s52_l2 f f.blocks f.blocks.length i (f.blocks.getD i (Block.mk [])).ins (f.blocks.getD i (Block.mk [])).ins.length k ([0]++f.params++tyB (f.blocks.take i)++tyI ((f.blocks.getD i (Block.mk [])).ins.take k)))
   k52_l2 (s52_l2 f f.blocks f.blocks.length i (f.blocks.getD i (Block.mk [])).ins (f.blocks.getD i (Block.mk [])).ins.length (k+1:Nat) ([0]++f.params++tyB (f.blocks.take i)++tyI ((f.blocks.getD i (Block.mk [])).ins.take (k+1)))):= .step fun J=>by
 have h1:=h.tyl hi hk
 have h3:=(h.blk hi).1
 rw [e52_l2,tyI_step hk]
 by_cases ht:(((f.blocks.getD i (Block.mk [])).ins.getD k (Ins.mk 0 0 0 0 0 [] [])).type_ != 0)=true
 ·rw [if_pos ht,←List.append_assoc]
  simp (disch:=first|omega|assumption|(rw [dT];omega)|(rw [dF];omega)) only [↓iP,↓iN,iT,iF,wrap_up,tN,Nat.zero_add,List.length_singleton]
  rfl
 ·rw [if_neg ht,List.append_nil]
  simp (disch:=first|omega|assumption|(rw [dT];omega)|(rw [dF];omega)) only [↓iP,↓iN,iT,iF,wrap_up,tN,Nat.zero_add]
  rfl
theorem Types.out (h:okF f) {i:Nat} (hi:i<f.blocks.length):
  Goes C52 U52 (R52 f) k52_l0 (s52_l0 f f.blocks f.blocks.length i ([0]++f.params++tyB (f.blocks.take i))) k52_l0 (s52_l0 f f.blocks f.blocks.length (i+1:Nat) ([0]++f.params++tyB (f.blocks.take (i+1)))):=by
 have hb:=h.2.1
 refine Goes.trans (k':=k52_l2) (s':=s52_l2 f f.blocks f.blocks.length i (f.blocks.getD i (Block.mk [])).ins (f.blocks.getD i (Block.mk [])).ins.length (0:Nat) ([0]++f.params++tyB (f.blocks.take i)++tyI ((f.blocks.getD i (Block.mk [])).ins.take 0))) (.step fun J=> ?_) ?_
 ·rw [e52_l0]
  simp (disch:=first|omega|assumption|(rw [dT];omega)|(rw [dF];omega)) only [↓iP,↓iN,iT,iF,wrap_up,tN,Nat.zero_add]
  simp only [List.take_zero]
  rw [show tyI []=[] from rfl,List.append_nil]
  rfl
 refine Goes.trans (Goes.upto (fun k=>s52_l2 f f.blocks f.blocks.length i (f.blocks.getD i (Block.mk [])).ins (f.blocks.getD i (Block.mk [])).ins.length k ([0]++f.params++tyB (f.blocks.take i)++tyI ((f.blocks.getD i (Block.mk [])).ins.take k))) _ (fun k hk=>Types.in h hi hk) _ (Nat.le_refl _)) ?_
 refine Goes.trans (k':=k52_j2) (s':=s52_j2 f f.blocks f.blocks.length i ([0]++f.params++tyB (f.blocks.take (i+1)))) (.step fun J=> ?_) (Goes.trans (.step fun J=>e52_j2 ..) (.step fun J=> ?_))
 ·rw [e52_l2,tyB_step hi,←List.append_assoc]
  simp (disch:=first|omega|assumption|(rw [dT];omega)|(rw [dF];omega)) only [↓iP,↓iN,iT,iF,wrap_up,tN,Nat.zero_add,List.take_length]
 ·rw [e52_j1]
  simp (disch:=first|omega|assumption|(rw [dT];omega)|(rw [dF];omega)) only [↓iP,↓iN,iT,iF,wrap_up,tN,Nat.zero_add]
  rfl
end
theorem types_ok (f:Ev.Func) (h:okF f):CallOk tb Try.prog 52 (a52 f) (.sl true 3 (typesOf f)) [.dead]:=by
 have hb:=h.2.1
 have hp:=h.1
 refine fn52 f (Goes.ends (k':=k52_l0) (s':=s52_l0 f f.blocks f.blocks.length (0:Nat) ([0]++f.params++tyB (f.blocks.take 0))) (.step fun J=> ?_) ?_)
 ·rw [e52]
  simp (disch:=first|omega|assumption|(rw [dT];omega)|(rw [dF];omega)) only [↓iP,↓iN,iT,iF,wrap_up,tN,Nat.zero_add,List.length_singleton,List.take_zero]
  rw [show tyB []=[] from rfl,List.append_nil]
  rfl
 refine Goes.ends (Goes.upto (fun i=>s52_l0 f f.blocks f.blocks.length i ([0]++f.params++tyB (f.blocks.take i))) f.blocks.length (fun i hi=>Types.out h hi) _ (Nat.le_refl _)) ?_
 refine Goes.ends (k':=k52_j0) (s':=s52_j0 f (typesOf f)) (.step fun J=> ?_) (.step fun J=>e52_j0 J f _)
 rw [e52_l0]
 simp (disch:=first|omega|assumption|(rw [dT];omega)|(rw [dF];omega)) only [↓iP,↓iN,iT,iF,wrap_up,tN,Nat.zero_add,List.take_length]
 rfl
noncomputable def b30:Code:=bodyOf Try.f30
noncomputable def C30:Cfg Ty:=⟨fun _=>none,fun
 |3=>true
 |7=>true
 |10=>true
 |43=>true
 |44=>true
 |2=>true
 |_=>false,46,0⟩
def U30:Cuts:=⟨fun
 |0=>some [(3,some 3)]
 |1=>some [(1,none),(3,some 3),(4,none)]
 |2=>some [(1,none),(3,some 3),(4,none)]
 |_=>none,fun
 |0=>some [(1,none),(3,some 3),(4,none)]
 |2=>some [(1,none),(3,some 3),(4,none),(5,none)]
 |_=>none,fun _=>none⟩
noncomputable def k30_j0:List Item:=[.code (sndC (sndC (sndC b30)))]
noncomputable def k30_l0:List Item:=[.code (inC (inC (sndC (fstC (sndC (sndC b30)))))), .inLoop (inC (inC (sndC (fstC (sndC (sndC b30)))))), .inBlock 0, .code (sndC (sndC (sndC b30)))]
noncomputable def k30_j1:List Item:=[.code (sndC (sndC (inC (inC (sndC (fstC (sndC (sndC b30)))))))), .inLoop (inC (inC (sndC (fstC (sndC (sndC b30)))))), .inBlock 0, .code (sndC (sndC (sndC b30)))]
noncomputable def k30_j2:List Item:=[.inBlock 1, .code (sndC (sndC (inC (inC (sndC (fstC (sndC (sndC b30)))))))), .inLoop (inC (inC (sndC (fstC (sndC (sndC b30)))))), .inBlock 0, .code (sndC (sndC (sndC b30)))]
noncomputable def k30_l2:List Item:=[.code (inC (inC (sndC (inC (fstC (sndC (inC (inC (sndC (fstC (sndC (sndC b30)))))))))))), .inLoop (inC (inC (sndC (inC (fstC (sndC (inC (inC (sndC (fstC (sndC (sndC b30)))))))))))), .inBlock 2, .inBlock 1, .code (sndC (sndC (inC (inC (sndC (fstC (sndC (sndC b30)))))))), .inLoop (inC (inC (sndC (fstC (sndC (sndC b30)))))), .inBlock 0, .code (sndC (sndC (sndC b30)))]
def a30 (f:Func):List (AV Ty):=[.agg [.v (.string f.name), .v (.bool f.out), .sl false (3:Nat) f.params, .v (.int .i64 f.result), .sl false (44:Nat) f.blocks]]
noncomputable def R30 (f:Func):St Ty→EvR:=resT tb C30 Try.f30.results.toList (.own 3) (a30 f)
def s30_l0 (f:Func) (v4:Int) (h0:List Func) (h1:List Int):St Ty:=St.mk [(1, .ptr (0) [] (0) (0)),(3, .ref (1) [] none false),(4, .v (.int .i64 v4))] [some (Root.mk (33) false h0),some (Root.mk (3) true h1)]
def s30_l2 (f:Func) (v4:Int) (v5:Int) (h0:List Func) (h1:List Int):St Ty:=St.mk [(1, .ptr (0) [] (0) (0)),(3, .ref (1) [] none false),(4, .v (.int .i64 v4)),(5, .v (.int .i64 v5))] [some (Root.mk (33) false h0),some (Root.mk (3) true h1)]
def s30_j0 (f:Func) (h0:List Int):St Ty:=St.mk [(3, .ref (0) [] none false)] [some (Root.mk (3) true h0)]
def s30_j2 (f:Func) (v4:Int) (h0:List Func) (h1:List Int):St Ty:=St.mk [(1, .ptr (0) [] (0) (0)),(3, .ref (1) [] none false),(4, .v (.int .i64 v4))] [some (Root.mk (33) false h0),some (Root.mk (3) true h1)]
def s30_j1 (f:Func) (v4:Int) (h0:List Func) (h1:List Int):St Ty:=St.mk [(1, .ptr (0) [] (0) (0)),(3, .ref (1) [] none false),(4, .v (.int .i64 v4))] [some (Root.mk (33) false h0),some (Root.mk (3) true h1)]
theorem e30 (J f):run tb C30 U30 J (R30 f) 4096 [.code b30] ⟨slotsA (a30 f) 0 0,heapA (a30 f)⟩=
 if [0].length+f.params.length+1≤549755813888∧([0].length+f.params.length+1)*8≤549755813888 then
 J k30_l0 (s30_l0 f 0 ([Func.mk f.name f.out f.params f.result f.blocks]) ([0]++f.params))
 else none:=by kernel_rfl
theorem e30_l0 (J f v4 h0 h1):run tb C30 U30 J (R30 f) 4096 k30_l0 (s30_l0 f v4 h0 h1)=
 if decide (v4<(↑(h0.getD (0) (Func.mk ByteArray.empty false [] 0 [])).blocks.length:Int))=true then
 J k30_l2 (s30_l2 f v4 0 h0 h1)
 else
 J k30_j0 (s30_j0 f h1):=by kernel_rfl
theorem e30_l2 (J f v4 v5 h0 h1):run tb C30 U30 J (R30 f) 4096 k30_l2 (s30_l2 f v4 v5 h0 h1)=
 if 0≤v4 then
 if v4<(↑(h0.getD (0) (Func.mk ByteArray.empty false [] 0 [])).blocks.length:Int) then
 if decide (v5<(↑((h0.getD (0) (Func.mk ByteArray.empty false [] 0 [])).blocks.getD v4.toNat (Block.mk [])).ins.length:Int))=true then
 if 0≤v4 then
 if v4<(↑(h0.getD (0) (Func.mk ByteArray.empty false [] 0 [])).blocks.length:Int) then
 if 0≤v5 then
 if v5<(↑((h0.getD (0) (Func.mk ByteArray.empty false [] 0 [])).blocks.getD v4.toNat (Block.mk [])).ins.length:Int) then
 if ((((h0.getD (0) (Func.mk ByteArray.empty false [] 0 [])).blocks.getD v4.toNat (Block.mk [])).ins.getD v5.toNat (Ins.mk 0 0 0 0 0 [] [])).type_ != 0)=true then
 if h1.length+[(((h0.getD (0) (Func.mk ByteArray.empty false [] 0 [])).blocks.getD v4.toNat (Block.mk [])).ins.getD v5.toNat (Ins.mk 0 0 0 0 0 [] [])).type_].length+1≤549755813888∧(h1.length+[(((h0.getD (0) (Func.mk ByteArray.empty false [] 0 [])).blocks.getD v4.toNat (Block.mk [])).ins.getD v5.toNat (Ins.mk 0 0 0 0 0 [] [])).type_].length+1)*8≤549755813888 then
 J k30_l2 (s30_l2 f v4 (IntKind.i64.wrap (v5+1)) h0 (h1++[(((h0.getD (0) (Func.mk ByteArray.empty false [] 0 [])).blocks.getD v4.toNat (Block.mk [])).ins.getD v5.toNat (Ins.mk 0 0 0 0 0 [] [])).type_]))
 else none
 else
 J k30_l2 (s30_l2 f v4 (IntKind.i64.wrap (v5+1)) h0 h1)
 else none
 else none
 else none
 else none
 else
 J k30_j2 (s30_j2 f v4 h0 h1)
 else none
 else none:=by kernel_rfl
theorem e30_j0 (J f h0):run tb C30 U30 J (R30 f) 4096 k30_j0 (s30_j0 f h0)=
 some (.sl true (3) h0,[.dead]):=by kernel_rfl
theorem e30_j2 (J f v4 h0 h1):run tb C30 U30 J (R30 f) 4096 k30_j2 (s30_j2 f v4 h0 h1)=
 J k30_j1 (s30_j1 f v4 h0 h1):=by kernel_rfl
theorem e30_j1 (J f v4 h0 h1):run tb C30 U30 J (R30 f) 4096 k30_j1 (s30_j1 f v4 h0 h1)=
 J k30_l0 (s30_l0 f (IntKind.i64.wrap (v4+1)) h0 h1):=by kernel_rfl

theorem in30:Entered 30:=⟨Try.f30,b30,by kernel_rfl,by kernel_rfl,by kernel_rfl⟩
theorem fn30 (f:Ev.Func) {res:AV Ty} {outs:List (AV Ty)} (h:Ends C30 U30 (R30 f) [.code b30] ⟨slotsA (a30 f) 0 0,heapA (a30 f)⟩ (some (res,outs))):CallOk tb Try.prog 30 (a30 f) res outs:=by
 obtain ⟨n0,hn⟩:=h
 exact fn_ok (C:=C30) (U:=U30) (n:=0+n0) (q:=(.own 3)) tbOk good (fun f mu S h=>by cases h) mixed (fn:=Try.f30) (body:=b30) (by kernel_rfl) (by kernel_rfl) rfl rfl (by show 1≤46;omega) (hn 0)
section
variable {f:Ev.Func}
theorem RTypes.in (h:okF f) {i:Nat} (hi:i<f.blocks.length) {k:Nat} (hk:k<(f.blocks.getD i (Block.mk [])).ins.length):
  Goes C30 U30 (R30 f) k30_l2 (s30_l2 f i k [f] ([0]++f.params++tyB (f.blocks.take i)++tyI ((f.blocks.getD i (Block.mk [])).ins.take k)))
   k30_l2 (s30_l2 f i (k+1:Nat) [f] ([0]++f.params++tyB (f.blocks.take i)++tyI ((f.blocks.getD i (Block.mk [])).ins.take (k+1)))):= .step fun J=>by
 have h1:=h.tyl hi hk
 have h3:=(h.blk hi).1
 rw [e30_l2,tyI_step hk]
 simp only [List.getD_cons_zero,Int.toNat_natCast]
 by_cases ht:(((f.blocks.getD i (Block.mk [])).ins.getD k (Ins.mk 0 0 0 0 0 [] [])).type_ != 0)=true
 ·rw [if_pos ht,←List.append_assoc]
  simp (disch:=first|omega|assumption|(rw [dT];omega)|(rw [dF];omega)) only [↓iP,↓iN,iT,iF,wrap_up,tN,Nat.zero_add,List.length_singleton]
  rfl
 ·rw [if_neg ht,if_neg ht,List.append_nil]
  simp (disch:=first|omega|assumption|(rw [dT];omega)|(rw [dF];omega)) only [↓iP,↓iN,iT,iF,wrap_up,tN,Nat.zero_add]
  rfl
theorem RTypes.out (h:okF f) {i:Nat} (hi:i<f.blocks.length):
  Goes C30 U30 (R30 f) k30_l0 (s30_l0 f i [f] ([0]++f.params++tyB (f.blocks.take i))) k30_l0 (s30_l0 f (i+1:Nat) [f] ([0]++f.params++tyB (f.blocks.take (i+1)))):=by
 have hb:=h.2.1
 refine Goes.trans (k':=k30_l2) (s':=s30_l2 f i (0:Nat) [f] ([0]++f.params++tyB (f.blocks.take i)++tyI ((f.blocks.getD i (Block.mk [])).ins.take 0))) (.step fun J=> ?_) ?_
 ·rw [e30_l0]
  simp only [List.getD_cons_zero,Int.toNat_natCast]
  simp (disch:=first|omega|assumption|(rw [dT];omega)|(rw [dF];omega)) only [↓iP,↓iN,iT,iF,wrap_up,tN,Nat.zero_add]
  simp only [List.take_zero]
  rw [show tyI []=[] from rfl,List.append_nil]
  rfl
 refine Goes.trans (Goes.upto (fun k=>s30_l2 f i k [f] ([0]++f.params++tyB (f.blocks.take i)++tyI ((f.blocks.getD i (Block.mk [])).ins.take k))) _ (fun k hk=>RTypes.in h hi hk) _ (Nat.le_refl _)) ?_
 refine Goes.trans (k':=k30_j2) (s':=s30_j2 f i [f] ([0]++f.params++tyB (f.blocks.take (i+1)))) (.step fun J=> ?_) (Goes.trans (.step fun J=>e30_j2 ..) (.step fun J=> ?_))
 ·rw [e30_l2,tyB_step hi,←List.append_assoc]
  simp only [List.getD_cons_zero,Int.toNat_natCast]
  simp (disch:=first|omega|assumption|(rw [dT];omega)|(rw [dF];omega)) only [↓iP,↓iN,iT,iF,wrap_up,tN,Nat.zero_add,List.take_length]
 ·rw [e30_j1]
  simp (disch:=first|omega|assumption|(rw [dT];omega)|(rw [dF];omega)) only [↓iP,↓iN,iT,iF,wrap_up,tN,Nat.zero_add]
  rfl
end
theorem rtypes_ok (f:Ev.Func) (h:okF f):CallOk tb Try.prog 30 (a30 f) (.sl true 3 (typesOf f)) [.dead]:=by
 have hb:=h.2.1
 have hp:=h.1
 refine fn30 f (Goes.ends (k':=k30_l0) (s':=s30_l0 f (0:Nat) [f] ([0]++f.params++tyB (f.blocks.take 0))) (.step fun J=> ?_) ?_)
 ·rw [e30]
  simp (disch:=first|omega|assumption|(rw [dT];omega)|(rw [dF];omega)) only [↓iP,↓iN,iT,iF,wrap_up,tN,Nat.zero_add,List.length_singleton,List.take_zero]
  rw [show tyB []=[] from rfl,List.append_nil]
  rfl
 refine Goes.ends (Goes.upto (fun i=>s30_l0 f i [f] ([0]++f.params++tyB (f.blocks.take i))) f.blocks.length (fun i hi=>RTypes.out h hi) _ (Nat.le_refl _)) ?_
 refine Goes.ends (k':=k30_j0) (s':=s30_j0 f (typesOf f)) (.step fun J=> ?_) (.step fun J=>e30_j0 J f _)
 rw [e30_l0]
 simp only [List.getD_cons_zero,Int.toNat_natCast]
 simp (disch:=first|omega|assumption|(rw [dT];omega)|(rw [dF];omega)) only [↓iP,↓iN,iT,iF,wrap_up,tN,Nat.zero_add,List.take_length]
 rfl
end Go.Proofs.Ytggibjbcbicpjaa.Ev
namespace Go.Proofs.Ytggibjbcbicpjaa.Ev
open Go
set_option linter.unusedVariables false
set_option linter.unusedSimpArgs false
noncomputable def S51:List (AV Ty)→T (AV Ty×List (AV Ty))
 |[.agg x]=>match cod33.dec false x with
  |some f=> .ite (okF f) (okF.dec f) (.ret (.v (.int .i64 (szT f.blocks)),[.dead])) .fail
  |none=> .fail
 |_=> .fail
theorem S51_ok (l:List (AV Ty)) (r:AV Ty) (outs:List (AV Ty)) (h:(S51 l).val=some (r,outs)):CallOk tb Try.prog 51 l r outs:=by
 unfold S51 at h
 split at h
 ·rename_i x
  split at h
  ·rename_i f e1
   rcases ite_val h with ⟨e,h⟩|⟨_,h⟩
   ·cases h
    have h1:=cod33_ok.dec false x f e1
    subst h1
    exact size_ok f e
   ·cases h
  ·cases h
 ·cases h
noncomputable def S28:List (AV Ty)→T (AV Ty×List (AV Ty))
 |[.agg x]=>match cod33.dec false x with
  |some f=> .ite (okF f) (okF.dec f) (.ret (.v (.int .i64 (szT f.blocks)),[.dead])) .fail
  |none=> .fail
 |_=> .fail
theorem S28_ok (l:List (AV Ty)) (r:AV Ty) (outs:List (AV Ty)) (h:(S28 l).val=some (r,outs)):CallOk tb Try.prog 28 l r outs:=by
 unfold S28 at h
 split at h
 ·rename_i x
  split at h
  ·rename_i f e1
   rcases ite_val h with ⟨e,h⟩|⟨_,h⟩
   ·cases h
    have h1:=cod33_ok.dec false x f e1
    subst h1
    exact rsize_ok f e
   ·cases h
  ·cases h
 ·cases h
noncomputable def S52:List (AV Ty)→T (AV Ty×List (AV Ty))
 |[.agg x]=>match cod33.dec false x with
  |some f=> .ite (okF f) (okF.dec f) (.ret (.sl true 3 (typesOf f),[.dead])) .fail
  |none=> .fail
 |_=> .fail
theorem S52_ok (l:List (AV Ty)) (r:AV Ty) (outs:List (AV Ty)) (h:(S52 l).val=some (r,outs)):CallOk tb Try.prog 52 l r outs:=by
 unfold S52 at h
 split at h
 ·rename_i x
  split at h
  ·rename_i f e1
   rcases ite_val h with ⟨e,h⟩|⟨_,h⟩
   ·cases h
    have h1:=cod33_ok.dec false x f e1
    subst h1
    exact types_ok f e
   ·cases h
  ·cases h
 ·cases h
noncomputable def S30:List (AV Ty)→T (AV Ty×List (AV Ty))
 |[.agg x]=>match cod33.dec false x with
  |some f=> .ite (okF f) (okF.dec f) (.ret (.sl true 3 (typesOf f),[.dead])) .fail
  |none=> .fail
 |_=> .fail
theorem S30_ok (l:List (AV Ty)) (r:AV Ty) (outs:List (AV Ty)) (h:(S30 l).val=some (r,outs)):CallOk tb Try.prog 30 l r outs:=by
 unfold S30 at h
 split at h
 ·rename_i x
  split at h
  ·rename_i f e1
   rcases ite_val h with ⟨e,h⟩|⟨_,h⟩
   ·cases h
    have h1:=cod33_ok.dec false x f e1
    subst h1
    exact rtypes_ok f e
   ·cases h
  ·cases h
 ·cases h
def fineI (i:Ev.Ins):Prop:=i.args.length≤20∧i.into.length≤20
def wideF (f:Ev.Func):Prop:= ∀b,b∈f.blocks→b.ins.length≤140737488351232
def lightF (f:Ev.Func):Prop:=f.name.size≤40∧f.params.length≤8∧f.blocks.length≤16∧szT f.blocks≤90∧ ∀b,b∈f.blocks→ ∀i,i∈b.ins→fineI i
instance fineI.dec (i:Ev.Ins):Decidable (fineI i):=by unfold fineI;infer_instance
instance wideF.dec (f:Ev.Func):Decidable (wideF f):=by unfold wideF;infer_instance
instance lightF.dec (f:Ev.Func):Decidable (lightF f):=by unfold lightF;infer_instance
theorem szT_mem {l:List Ev.Block} {b:Ev.Block} (h:b∈l):b.ins.length≤szT l:=by
 induction l with
 |nil=>cases h
 |cons x l ih=>
  simp only [szT,List.map_cons,List.sum_cons] at ih⊢
  rcases List.mem_cons.1 h with rfl|h
  ·omega
  ·have:=ih h;omega
theorem lightF.ok {f:Ev.Func} (h:lightF f):okF f:=by
 obtain ⟨h1,h2,h3,h4,h5⟩:=h
 refine ⟨by omega,by omega,fun b hb=>⟨?_,fun i hi=> ?_⟩⟩
 ·have:=szT_mem hb;omega
 ·have:=h5 b hb i hi
  unfold fineI at this
  exact ⟨by omega,by omega⟩
def yesB (q:Bool):AV Ty:= .v (.bool q)
noncomputable def b25:Code:=bodyOf Try.f25
def C25:Cfg Ty:=⟨fun _=>none,fun _=>false,77,0⟩
def U25:Cuts:=⟨fun
 |0=>some []
 |1=>some [(1,none),(3,none),(4,none)]
 |2=>some [(1,none),(3,none),(4,none)]
 |_=>none,fun
 |0=>some [(1,none),(3,none),(4,none)]
 |2=>some [(1,none),(3,none),(4,none),(5,none)]
 |_=>none,fun _=>none⟩
noncomputable def k25_j0:List Item:=[.code (sndC (sndC (sndC (sndC b25))))]
noncomputable def k25_l0:List Item:=[.code (inC (inC (sndC (fstC (sndC (sndC (sndC b25))))))), .inLoop (inC (inC (sndC (fstC (sndC (sndC (sndC b25))))))), .inBlock 0, .code (sndC (sndC (sndC (sndC b25))))]
noncomputable def k25_j1:List Item:=[.code (sndC (sndC (inC (inC (sndC (fstC (sndC (sndC (sndC b25))))))))), .inLoop (inC (inC (sndC (fstC (sndC (sndC (sndC b25))))))), .inBlock 0, .code (sndC (sndC (sndC (sndC b25))))]
noncomputable def k25_j2:List Item:=[.inBlock 1, .code (sndC (sndC (inC (inC (sndC (fstC (sndC (sndC (sndC b25))))))))), .inLoop (inC (inC (sndC (fstC (sndC (sndC (sndC b25))))))), .inBlock 0, .code (sndC (sndC (sndC (sndC b25))))]
noncomputable def k25_l2:List Item:=[.code (inC (inC (sndC (sndC (sndC (inC (fstC (sndC (inC (inC (sndC (fstC (sndC (sndC (sndC b25))))))))))))))), .inLoop (inC (inC (sndC (sndC (sndC (inC (fstC (sndC (inC (inC (sndC (fstC (sndC (sndC (sndC b25))))))))))))))), .inBlock 2, .inBlock 1, .code (sndC (sndC (inC (inC (sndC (fstC (sndC (sndC (sndC b25))))))))), .inLoop (inC (inC (sndC (fstC (sndC (sndC (sndC b25))))))), .inBlock 0, .code (sndC (sndC (sndC (sndC b25))))]
def a25 (f:Func):List (AV Ty):=[.agg [.v (.string f.name), .v (.bool f.out), .sl false (3:Nat) f.params, .v (.int .i64 f.result), .sl false (44:Nat) f.blocks]]
noncomputable def R25 (f:Func):St Ty→EvR:=resT tb C25 Try.f25.results.toList .keep (a25 f)
def s25_l0 (f:Func) (v3:Int) (v4:Int) (h0:List Func):St Ty:=St.mk [(1, .ptr (0) [] (0) (0)),(3, .v (.int .i64 v3)),(4, .v (.int .i64 v4))] [some (Root.mk (33) false h0)]
def s25_l2 (f:Func) (v3:Int) (v4:Int) (v5:Int) (h0:List Func):St Ty:=St.mk [(1, .ptr (0) [] (0) (0)),(3, .v (.int .i64 v3)),(4, .v (.int .i64 v4)),(5, .v (.int .i64 v5))] [some (Root.mk (33) false h0)]
def s25_j0 (f:Func):St Ty:=St.mk [] []
def s25_j2 (f:Func) (v3:Int) (v4:Int) (h0:List Func):St Ty:=St.mk [(1, .ptr (0) [] (0) (0)),(3, .v (.int .i64 v3)),(4, .v (.int .i64 v4))] [some (Root.mk (33) false h0)]
def s25_j1 (f:Func) (v3:Int) (v4:Int) (h0:List Func):St Ty:=St.mk [(1, .ptr (0) [] (0) (0)),(3, .v (.int .i64 v3)),(4, .v (.int .i64 v4))] [some (Root.mk (33) false h0)]
theorem e25 (J f):run tb C25 U25 J (R25 f) 4096 [.code b25] ⟨slotsA (a25 f) 0 0,heapA (a25 f)⟩=
 if decide ((↑f.name.size:Int)>40)=false then
 if decide ((↑f.params.length:Int)>8)=false then
 if decide ((↑f.blocks.length:Int)>16)=true then
 some (.v (.bool false),[.dead])
 else
 J k25_l0 (s25_l0 f 0 0 ([Func.mk f.name f.out f.params f.result f.blocks]))
 else
 some (.v (.bool false),[.dead])
 else
 some (.v (.bool false),[.dead]):=by kernel_rfl
theorem e25_l0 (J f v3 v4 h0):run tb C25 U25 J (R25 f) 4096 k25_l0 (s25_l0 f v3 v4 h0)=
 if decide (v4<(↑(h0.getD (0) (Func.mk ByteArray.empty false [] 0 [])).blocks.length:Int))=true then
 if 0≤v4 then
 if v4<(↑(h0.getD (0) (Func.mk ByteArray.empty false [] 0 [])).blocks.length:Int) then
 if decide (IntKind.i64.wrap (v3+(↑((h0.getD (0) (Func.mk ByteArray.empty false [] 0 [])).blocks.getD v4.toNat (Block.mk [])).ins.length:Int))>90)=true then
 some (.v (.bool false),[.dead])
 else
 J k25_l2 (s25_l2 f (IntKind.i64.wrap (v3+(↑((h0.getD (0) (Func.mk ByteArray.empty false [] 0 [])).blocks.getD v4.toNat (Block.mk [])).ins.length:Int))) v4 0 h0)
 else none
 else none
 else
 J k25_j0 (s25_j0 f):=by kernel_rfl
theorem e25_l2 (J f v3 v4 v5 h0):run tb C25 U25 J (R25 f) 4096 k25_l2 (s25_l2 f v3 v4 v5 h0)=
 if 0≤v4 then
 if v4<(↑(h0.getD (0) (Func.mk ByteArray.empty false [] 0 [])).blocks.length:Int) then
 if decide (v5<(↑((h0.getD (0) (Func.mk ByteArray.empty false [] 0 [])).blocks.getD v4.toNat (Block.mk [])).ins.length:Int))=true then
 if 0≤v4 then
 if v4<(↑(h0.getD (0) (Func.mk ByteArray.empty false [] 0 [])).blocks.length:Int) then
 if 0≤v5 then
 if v5<(↑((h0.getD (0) (Func.mk ByteArray.empty false [] 0 [])).blocks.getD v4.toNat (Block.mk [])).ins.length:Int) then
 if decide ((↑(((h0.getD (0) (Func.mk ByteArray.empty false [] 0 [])).blocks.getD v4.toNat (Block.mk [])).ins.getD v5.toNat (Ins.mk 0 0 0 0 0 [] [])).args.length:Int)>20)=false then
 if 0≤v4 then
 if v4<(↑(h0.getD (0) (Func.mk ByteArray.empty false [] 0 [])).blocks.length:Int) then
 if 0≤v5 then
 if v5<(↑((h0.getD (0) (Func.mk ByteArray.empty false [] 0 [])).blocks.getD v4.toNat (Block.mk [])).ins.length:Int) then
 if decide ((↑(((h0.getD (0) (Func.mk ByteArray.empty false [] 0 [])).blocks.getD v4.toNat (Block.mk [])).ins.getD v5.toNat (Ins.mk 0 0 0 0 0 [] [])).into.length:Int)>20)=true then
 some (.v (.bool false),[.dead])
 else
 J k25_l2 (s25_l2 f v3 v4 (IntKind.i64.wrap (v5+1)) h0)
 else none
 else none
 else none
 else none
 else
 some (.v (.bool false),[.dead])
 else none
 else none
 else none
 else none
 else
 J k25_j2 (s25_j2 f v3 v4 h0)
 else none
 else none:=by kernel_rfl
theorem e25_j0 (J f):run tb C25 U25 J (R25 f) 4096 k25_j0 (s25_j0 f)=
 some (.v (.bool true),[.dead]):=by kernel_rfl
theorem e25_j2 (J f v3 v4 h0):run tb C25 U25 J (R25 f) 4096 k25_j2 (s25_j2 f v3 v4 h0)=
 J k25_j1 (s25_j1 f v3 v4 h0):=by kernel_rfl
theorem e25_j1 (J f v3 v4 h0):run tb C25 U25 J (R25 f) 4096 k25_j1 (s25_j1 f v3 v4 h0)=
 J k25_l0 (s25_l0 f v3 (IntKind.i64.wrap (v4+1)) h0):=by kernel_rfl

theorem in25:Entered 25:=⟨Try.f25,b25,by kernel_rfl,by kernel_rfl,by kernel_rfl⟩
theorem fn25 (f:Ev.Func) {res:AV Ty} {outs:List (AV Ty)} (h:Ends C25 U25 (R25 f) [.code b25] ⟨slotsA (a25 f) 0 0,heapA (a25 f)⟩ (some (res,outs))):CallOk tb Try.prog 25 (a25 f) res outs:=by
 obtain ⟨n0,hn⟩:=h
 exact fn_ok (C:=C25) (U:=U25) (n:=0+n0) (q:= .keep) tbOk good (fun f mu S h=>by cases h) mixed (fn:=Try.f25) (body:=b25) (by kernel_rfl) (by kernel_rfl) rfl rfl (by show 1≤77;omega) (hn 0)
section
variable {f:Ev.Func}
theorem Light.in1 {i:Nat} {n:Int} (hi:i<f.blocks.length) (hw:wideF f) {k:Nat} (hk:k<(f.blocks.getD i (Block.mk [])).ins.length) (h:fineI ((f.blocks.getD i (Block.mk [])).ins.getD k (Ins.mk 0 0 0 0 0 [] []))):
  Goes C25 U25 (R25 f) k25_l2 (s25_l2 f n i k [f]) k25_l2 (s25_l2 f n i (k+1:Nat) [f]):= .step fun J=>by
 have hl:=hw _ (getD_mem (d:=(Block.mk [])) hi)
 obtain ⟨h1,h2⟩:=h
 rw [e25_l2]
 simp only [List.getD_cons_zero,Int.toNat_natCast]
 simp (disch:=first|omega|assumption|(rw [dT];omega)|(rw [dF];omega)) only [↓iP,↓iN,iT,iF,wrap_up,tN,Nat.zero_add]
 rfl
theorem Light.in0 {i:Nat} {n:Int} (hi:i<f.blocks.length) (hw:wideF f) {k:Nat} (hk:k<(f.blocks.getD i (Block.mk [])).ins.length) (h: ¬fineI ((f.blocks.getD i (Block.mk [])).ins.getD k (Ins.mk 0 0 0 0 0 [] []))):
  Ends C25 U25 (R25 f) k25_l2 (s25_l2 f n i k [f]) (some (yesB false,[.dead])):= .step fun J=>by
 have hl:=hw _ (getD_mem (d:=(Block.mk [])) hi)
 rw [e25_l2]
 simp only [List.getD_cons_zero,Int.toNat_natCast]
 by_cases h1:((f.blocks.getD i (Block.mk [])).ins.getD k (Ins.mk 0 0 0 0 0 [] [])).args.length≤20
 ·have h2: ¬((f.blocks.getD i (Block.mk [])).ins.getD k (Ins.mk 0 0 0 0 0 [] [])).into.length≤20:=fun e=>h ⟨h1,e⟩
  simp (disch:=first|omega|assumption|(rw [dT];omega)|(rw [dF];omega)) only [↓iP,↓iN,iT,iF,wrap_up,tN,Nat.zero_add]
  rfl
 ·simp (disch:=first|omega|assumption|(rw [dT];omega)|(rw [dF];omega)) only [↓iP,↓iN,iT,iF,wrap_up,tN,Nat.zero_add]
  rfl
theorem szT_mono {l:List Ev.Block} (i:Nat):szT (l.take i)≤szT l:=by
 have:szT l=szT (l.take i)+szT (l.drop i):=by
  rw [szT,szT,szT,←List.sum_append,←List.map_append,List.take_append_drop]
 omega
theorem Light.go (hw:wideF f) (hl:f.blocks.length≤16): ∀(m i:Nat),i+m=f.blocks.length→szT (f.blocks.take i)≤90→
  Ends C25 U25 (R25 f) k25_l0 (s25_l0 f (szT (f.blocks.take i)) i [f]) (some (yesB (decide (szT f.blocks≤90∧ ∀b,b∈f.blocks.drop i→ ∀i,i∈b.ins→fineI i)),[.dead]))
 |0,i,hi,hs=>by
  have e:i=f.blocks.length:=by omega
  refine Goes.ends (k':=k25_j0) (s':=s25_j0 f) (.step fun J=> ?_) (.step fun J=> ?_)
  ·rw [e25_l0]
   simp only [List.getD_cons_zero,Int.toNat_natCast]
   simp (disch:=first|omega|assumption|(rw [dT];omega)|(rw [dF];omega)) only [↓iP,↓iN,iT,iF,wrap_up,tN,Nat.zero_add]
  ·rw [e25_j0,decide_eq_true]
   ·rfl
   ·subst e
    rw [List.take_length] at hs
    rw [List.drop_length]
    exact ⟨hs,fun b hb=>by cases hb⟩
 |m+1,i,hi,hs=>by
  have hi':i<f.blocks.length:=by omega
  have h1:=szT_step hi'
  have h2:=hw _ (getD_mem (d:=(Block.mk [])) hi')
  by_cases h3:szT (f.blocks.take (i+1))≤90
  ·have start:Goes C25 U25 (R25 f) k25_l0 (s25_l0 f (szT (f.blocks.take i)) i [f]) k25_l2 (s25_l2 f (szT (f.blocks.take (i+1))) i (0:Nat) [f]):= .step fun J=>by
    rw [e25_l0,h1]
    simp only [List.getD_cons_zero,Int.toNat_natCast]
    simp (disch:=first|omega|assumption|(rw [dT];omega)|(rw [dF];omega)) only [↓iP,↓iN,iT,iF,wrap_up,tN,Nat.zero_add]
    rfl
   refine start.ends ?_
   have hd:f.blocks.drop i=f.blocks.getD i (Block.mk []) :: f.blocks.drop (i+1):=by
    rw [List.drop_eq_getElem_cons hi',List.getD_eq_getElem?_getD,List.getElem?_eq_getElem hi']
    rfl
   by_cases h4: ∀x,x∈(f.blocks.getD i (Block.mk [])).ins→fineI x
   ·refine Goes.ends (Goes.upto (fun k=>s25_l2 f (szT (f.blocks.take (i+1))) i k [f]) _ (fun k hk=>Light.in1 hi' hw hk (h4 _ (getD_mem hk))) _ (Nat.le_refl _)) ?_
    refine Goes.ends (k':=k25_j2) (s':=s25_j2 f (szT (f.blocks.take (i+1))) i [f]) (.step fun J=> ?_) (Goes.ends (.step fun J=>e25_j2 ..) (Goes.ends (k':=k25_l0) (s':=s25_l0 f (szT (f.blocks.take (i+1))) (i+1:Nat) [f]) (.step fun J=> ?_) ?_))
    ·rw [e25_l2]
     simp only [List.getD_cons_zero,Int.toNat_natCast]
     simp (disch:=first|omega|assumption|(rw [dT];omega)|(rw [dF];omega)) only [↓iP,↓iN,iT,iF,wrap_up,tN,Nat.zero_add]
    ·rw [e25_j1]
     simp (disch:=first|omega|assumption|(rw [dT];omega)|(rw [dF];omega)) only [↓iP,↓iN,iT,iF,wrap_up,tN,Nat.zero_add]
     rfl
    ·have:=Light.go hw hl m (i+1) (by omega) h3
     rw [decide_eq_decide.2 (show _↔_ from ?_)]
     ·exact this
     ·rw [hd]
      simp only [List.mem_cons,forall_eq_or_imp]
      exact ⟨fun ⟨a,_,b⟩=>⟨a,b⟩,fun ⟨a,b⟩=>⟨a,h4,b⟩⟩
   ·rw [decide_eq_false (by
     rw [hd]
     simp only [List.mem_cons,forall_eq_or_imp]
     exact fun e=>h4 e.2.1)]
    have: ∃j,j<(f.blocks.getD i (Block.mk [])).ins.length∧ ¬fineI ((f.blocks.getD i (Block.mk [])).ins.getD j (Ins.mk 0 0 0 0 0 [] [])):=by
     refine Classical.byContradiction fun hn=>h4 fun x hx=> ?_
     obtain ⟨j,hj,e⟩:=List.getElem_of_mem hx
     refine Classical.byContradiction fun hc=>hn ⟨j,hj,?_⟩
     rw [List.getD_eq_getElem?_getD,List.getElem?_eq_getElem hj]
     rw [←e] at hc
     exact hc
    obtain ⟨j,j1,j2⟩:=this
    exact Ends.at (fun k=>s25_l2 f (szT (f.blocks.take (i+1))) i k [f]) _ (fun k=>fineI ((f.blocks.getD i (Block.mk [])).ins.getD k (Ins.mk 0 0 0 0 0 [] []))) (fun k hk hp=>Light.in1 hi' hw hk hp) (fun k hk hp=>Light.in0 hi' hw hk hp) _ 0 (Nat.zero_add _) ⟨j,Nat.zero_le _,j1,j2⟩
  ·rw [decide_eq_false fun e=>h3 (Nat.le_trans (szT_mono _) e.1)]
   exact .step fun J=>by
    rw [e25_l0]
    simp only [List.getD_cons_zero,Int.toNat_natCast]
    simp (disch:=first|omega|assumption|(rw [dT];omega)|(rw [dF];omega)) only [↓iP,↓iN,iT,iF,wrap_up,tN,Nat.zero_add]
    rfl
end
theorem light_ok (f:Ev.Func) (hw:wideF f):CallOk tb Try.prog 25 (a25 f) (yesB (decide (lightF f))) [.dead]:=by
 refine fn25 f ?_
 by_cases h1:f.name.size≤40
 ·by_cases h2:f.params.length≤8
  ·by_cases h3:f.blocks.length≤16
   ·refine Goes.ends (k':=k25_l0) (s':=s25_l0 f (szT (f.blocks.take 0)) (0:Nat) [f]) (.step fun J=> ?_) ?_
    ·rw [e25]
     simp (disch:=first|omega|assumption|(rw [dT];omega)|(rw [dF];omega)) only [↓iP,↓iN,iT,iF,wrap_up,tN,Nat.zero_add]
     rfl
    ·have:=Light.go hw h3 f.blocks.length 0 (by omega) (by simp [szT])
     rw [decide_eq_decide.2 (show lightF f↔_ from ⟨fun h=>h.2.2.2,fun h=>⟨h1,h2,h3,h⟩⟩)]
     exact this
   ·rw [decide_eq_false fun e=>h3 e.2.2.1]
    exact .step fun J=>by
     rw [e25]
     simp (disch:=first|omega|assumption|(rw [dT];omega)|(rw [dF];omega)) only [↓iP,↓iN,iT,iF,wrap_up,tN,Nat.zero_add]
     rfl
  ·rw [decide_eq_false fun e=>h2 e.2.1]
   exact .step fun J=>by
    rw [e25]
    simp (disch:=first|omega|assumption|(rw [dT];omega)|(rw [dF];omega)) only [↓iP,↓iN,iT,iF,wrap_up,tN,Nat.zero_add]
    rfl
 ·rw [decide_eq_false fun e=>h1 e.1]
  exact .step fun J=>by
   rw [e25]
   simp (disch:=first|omega|assumption|(rw [dT];omega)|(rw [dF];omega)) only [↓iP,↓iN,iT,iF,wrap_up,tN,Nat.zero_add]
   rfl
def lightB (f:Ev.Func):Bool:=decide (lightF f)
noncomputable def S25:List (AV Ty)→T (AV Ty×List (AV Ty))
 |[.agg x]=>match cod33.dec false x with
  |some f=> .ite (wideF f) (wideF.dec f) (.ret (.v (.bool (lightB f)),[.dead])) .fail
  |none=> .fail
 |_=> .fail
theorem S25_ok (l:List (AV Ty)) (r:AV Ty) (outs:List (AV Ty)) (h:(S25 l).val=some (r,outs)):CallOk tb Try.prog 25 l r outs:=by
 unfold S25 at h
 split at h
 ·rename_i x
  split at h
  ·rename_i f e1
   rcases ite_val h with ⟨e,h⟩|⟨_,h⟩
   ·cases h
    have h1:=cod33_ok.dec false x f e1
    subst h1
    exact light_ok f e
   ·cases h
  ·cases h
 ·cases h
noncomputable def b76:Code:=bodyOf Try.f76
noncomputable def C76:Cfg Ty:=⟨fun
 |80=>some ([],S80)
 |131=>some ([],S131)
 |_=>none,fun
 |1=>true
 |2=>true
 |6=>true
 |32=>true
 |33=>true
 |39=>true
 |40=>true
 |300001=>true
 |400043=>true
 |_=>false,44,0⟩
def U76:Cuts:=⟨fun
 |0=>some [(1,none),(2,none)]
 |1=>some [(1,none),(2,none),(16,none),(17,none),(18,none)]
 |2=>some [(1,none),(2,none),(6,some 46),(16,none),(17,none),(18,none)]
 |_=>none,fun
 |0=>some [(1,none),(2,none),(16,none),(17,none),(18,none)]
 |2=>some [(1,none),(2,none),(6,some 46),(16,none),(17,none),(18,none),(23,none),(24,none),(25,none)]
 |_=>none,fun _=>none⟩
noncomputable def k76_j0:List Item:=[.code (sndC (sndC (sndC (sndC (sndC b76)))))]
noncomputable def k76_l0:List Item:=[.code (inC (inC (sndC (fstC (sndC (sndC (sndC (sndC b76)))))))), .inLoop (inC (inC (sndC (fstC (sndC (sndC (sndC (sndC b76)))))))), .inBlock 0, .code (sndC (sndC (sndC (sndC (sndC b76)))))]
noncomputable def k76_j1:List Item:=[.code (sndC (sndC (sndC (inC (inC (sndC (fstC (sndC (sndC (sndC (sndC b76))))))))))), .inLoop (inC (inC (sndC (fstC (sndC (sndC (sndC (sndC b76)))))))), .inBlock 0, .code (sndC (sndC (sndC (sndC (sndC b76)))))]
noncomputable def k76_j2:List Item:=[.code (sndC (sndC (sndC (inC (fstC (sndC (sndC (inC (inC (sndC (fstC (sndC (sndC (sndC (sndC b76))))))))))))))), .inBlock 1, .code (sndC (sndC (sndC (inC (inC (sndC (fstC (sndC (sndC (sndC (sndC b76))))))))))), .inLoop (inC (inC (sndC (fstC (sndC (sndC (sndC (sndC b76)))))))), .inBlock 0, .code (sndC (sndC (sndC (sndC (sndC b76)))))]
noncomputable def k76_l2:List Item:=[.code (inC (inC (sndC (fstC (sndC (sndC (inC (fstC (sndC (sndC (inC (inC (sndC (fstC (sndC (sndC (sndC (sndC b76)))))))))))))))))), .inLoop (inC (inC (sndC (fstC (sndC (sndC (inC (fstC (sndC (sndC (inC (inC (sndC (fstC (sndC (sndC (sndC (sndC b76)))))))))))))))))), .inBlock 2, .code (sndC (sndC (sndC (inC (fstC (sndC (sndC (inC (inC (sndC (fstC (sndC (sndC (sndC (sndC b76))))))))))))))), .inBlock 1, .code (sndC (sndC (sndC (inC (inC (sndC (fstC (sndC (sndC (sndC (sndC b76))))))))))), .inLoop (inC (inC (sndC (fstC (sndC (sndC (sndC (sndC b76)))))))), .inBlock 0, .code (sndC (sndC (sndC (sndC (sndC b76)))))]
def a76 (f:Func):List (AV Ty):=[.agg [.v (.string f.name), .v (.bool f.out), .sl false (3:Nat) f.params, .v (.int .i64 f.result), .sl false (44:Nat) f.blocks]]
noncomputable def R76 (f:Func):St Ty→EvR:=resT tb C76 Try.f76.results.toList .keep (a76 f)
def s76_l0 (f:Func) (v16:List Block) (v17:Int) (v18:Int) (h0:ByteArray) (h0_1:Bool) (h0_2:List Int) (h0_3:Int) (h0_4:List Block) (h1:ByteArray) (h1_1:Bool) (h1_2:List Int) (h1_3:Int) (h1_4:List Block):St Ty:=St.mk [(1, .ptr (0) [] (0) (0)),(2, .ptr (1) [] (0) (0)),(16, .sl false (44) v16),(17, .v (.int .i64 v17)),(18, .v (.int .i64 v18))] [some (Root.mk (1033) true [FFunc.mk (Func.mk h0 h0_1 h0_2 h0_3 h0_4) true true]),some (Root.mk (33) true [Func.mk h1 h1_1 h1_2 h1_3 h1_4])]
def s76_l2 (f:Func) (v16:List Block) (v17:Int) (v18:Int) (v23:List Ins) (v24:Int) (v25:Int) (h0:ByteArray) (h0_1:Bool) (h0_2:List Int) (h0_3:Int) (h0_4:List Block) (h1:ByteArray) (h1_1:Bool) (h1_2:List Int) (h1_3:Int) (h1_4:List Block) (h2:List Ins):St Ty:=St.mk [(1, .ptr (0) [] (0) (0)),(2, .ptr (1) [] (0) (0)),(6, .ref (2) [] none false),(16, .sl false (44) v16),(17, .v (.int .i64 v17)),(18, .v (.int .i64 v18)),(23, .sl false (46) v23),(24, .v (.int .i64 v24)),(25, .v (.int .i64 v25))] [some (Root.mk (1033) true [FFunc.mk (Func.mk h0 h0_1 h0_2 h0_3 h0_4) true true]),some (Root.mk (33) true [Func.mk h1 h1_1 h1_2 h1_3 h1_4]),some (Root.mk (46) true h2)]
def s76_j0 (f:Func) (h0:ByteArray) (h0_1:Bool) (h0_2:List Int) (h0_3:Int) (h0_4:List Block) (h1:ByteArray) (h1_1:Bool) (h1_2:List Int) (h1_3:Int) (h1_4:List Block):St Ty:=St.mk [(1, .ptr (0) [] (0) (0)),(2, .ptr (1) [] (0) (0))] [some (Root.mk (1033) true [FFunc.mk (Func.mk h0 h0_1 h0_2 h0_3 h0_4) true true]),some (Root.mk (33) true [Func.mk h1 h1_1 h1_2 h1_3 h1_4])]
def s76_j2 (f:Func) (v16:List Block) (v17:Int) (v18:Int) (h0:ByteArray) (h0_1:Bool) (h0_2:List Int) (h0_3:Int) (h0_4:List Block) (h1:ByteArray) (h1_1:Bool) (h1_2:List Int) (h1_3:Int) (h1_4:List Block) (h2:List Ins):St Ty:=St.mk [(1, .ptr (0) [] (0) (0)),(2, .ptr (1) [] (0) (0)),(6, .ref (2) [] none false),(16, .sl false (44) v16),(17, .v (.int .i64 v17)),(18, .v (.int .i64 v18))] [some (Root.mk (1033) true [FFunc.mk (Func.mk h0 h0_1 h0_2 h0_3 h0_4) true true]),some (Root.mk (33) true [Func.mk h1 h1_1 h1_2 h1_3 h1_4]),some (Root.mk (46) true h2)]
def s76_j1 (f:Func) (v16:List Block) (v17:Int) (v18:Int) (h0:ByteArray) (h0_1:Bool) (h0_2:List Int) (h0_3:Int) (h0_4:List Block) (h1:ByteArray) (h1_1:Bool) (h1_2:List Int) (h1_3:Int) (h1_4:List Block):St Ty:=St.mk [(1, .ptr (0) [] (0) (0)),(2, .ptr (1) [] (0) (0)),(16, .sl false (44) v16),(17, .v (.int .i64 v17)),(18, .v (.int .i64 v18))] [some (Root.mk (1033) true [FFunc.mk (Func.mk h0 h0_1 h0_2 h0_3 h0_4) true true]),some (Root.mk (33) true [Func.mk h1 h1_1 h1_2 h1_3 h1_4])]
theorem e76 (J f):run tb C76 U76 J (R76 f) 4096 [.code b76] ⟨slotsA (a76 f) 0 0,heapA (a76 f)⟩=
 if f.params.length≤1000000 then
 J k76_l0 (s76_l0 f f.blocks ((↑f.blocks.length:Int)) 0 f.name f.out f.params f.result ([]) ByteArray.empty false ([]) 0 ([]))
 else none:=by kernel_rfl
theorem e76_l0 (J f v16 v17 v18 h0 h0_1 h0_2 h0_3 h0_4 h1 h1_1 h1_2 h1_3 h1_4):run tb C76 U76 J (R76 f) 4096 k76_l0 (s76_l0 f v16 v17 v18 h0 h0_1 h0_2 h0_3 h0_4 h1 h1_1 h1_2 h1_3 h1_4)=
 if decide (v18<v17)=true then
 if 0≤v18 then
 if v18<(↑v16.length:Int) then
 J k76_l2 (s76_l2 f v16 v17 v18 ((v16.getD v18.toNat (Block.mk [])).ins) ((↑(v16.getD v18.toNat (Block.mk [])).ins.length:Int)) 0 h0 h0_1 h0_2 h0_3 h0_4 h1 h1_1 h1_2 h1_3 h1_4 ([]))
 else none
 else none
 else
 J k76_j0 (s76_j0 f h0 h0_1 h0_2 h0_3 h0_4 h1 h1_1 h1_2 h1_3 h1_4):=by kernel_rfl
theorem e76_l2 (J f v16 v17 v18 v23 v24 v25 h0 h0_1 h0_2 h0_3 h0_4 h1 h1_1 h1_2 h1_3 h1_4 h2):run tb C76 U76 J (R76 f) 4096 k76_l2 (s76_l2 f v16 v17 v18 v23 v24 v25 h0 h0_1 h0_2 h0_3 h0_4 h1 h1_1 h1_2 h1_3 h1_4 h2)=
 if decide (v25<v24)=true then
 if 0≤v25 then
 if v25<(↑v23.length:Int) then
 if (v23.getD v25.toNat (Ins.mk 0 0 0 0 0 [] [])).args.length≤1000∧(v23.getD v25.toNat (Ins.mk 0 0 0 0 0 [] [])).into.length≤1000 then
 if h2.length+[Ins.mk (v23.getD v25.toNat (Ins.mk 0 0 0 0 0 [] [])).op (v23.getD v25.toNat (Ins.mk 0 0 0 0 0 [] [])).type_ (v23.getD v25.toNat (Ins.mk 0 0 0 0 0 [] [])).to_ (v23.getD v25.toNat (Ins.mk 0 0 0 0 0 [] [])).sym_ (v23.getD v25.toNat (Ins.mk 0 0 0 0 0 [] [])).num (v23.getD v25.toNat (Ins.mk 0 0 0 0 0 [] [])).args (v23.getD v25.toNat (Ins.mk 0 0 0 0 0 [] [])).into].length+1≤549755813888∧(h2.length+[Ins.mk (v23.getD v25.toNat (Ins.mk 0 0 0 0 0 [] [])).op (v23.getD v25.toNat (Ins.mk 0 0 0 0 0 [] [])).type_ (v23.getD v25.toNat (Ins.mk 0 0 0 0 0 [] [])).to_ (v23.getD v25.toNat (Ins.mk 0 0 0 0 0 [] [])).sym_ (v23.getD v25.toNat (Ins.mk 0 0 0 0 0 [] [])).num (v23.getD v25.toNat (Ins.mk 0 0 0 0 0 [] [])).args (v23.getD v25.toNat (Ins.mk 0 0 0 0 0 [] [])).into].length+1)*88≤549755813888 then
 J k76_l2 (s76_l2 f v16 v17 v18 v23 v24 (IntKind.i64.wrap (v25+1)) h0 h0_1 h0_2 h0_3 h0_4 h1 h1_1 h1_2 h1_3 h1_4 (h2++[Ins.mk (v23.getD v25.toNat (Ins.mk 0 0 0 0 0 [] [])).op (v23.getD v25.toNat (Ins.mk 0 0 0 0 0 [] [])).type_ (v23.getD v25.toNat (Ins.mk 0 0 0 0 0 [] [])).to_ (v23.getD v25.toNat (Ins.mk 0 0 0 0 0 [] [])).sym_ (v23.getD v25.toNat (Ins.mk 0 0 0 0 0 [] [])).num (v23.getD v25.toNat (Ins.mk 0 0 0 0 0 [] [])).args (v23.getD v25.toNat (Ins.mk 0 0 0 0 0 [] [])).into]))
 else none
 else none
 else none
 else none
 else
 J k76_j2 (s76_j2 f v16 v17 v18 h0 h0_1 h0_2 h0_3 h0_4 h1 h1_1 h1_2 h1_3 h1_4 h2):=by kernel_rfl
theorem e76_j0 (J f h0 h0_1 h0_2 h0_3 h0_4 h1 h1_1 h1_2 h1_3 h1_4):run tb C76 U76 J (R76 f) 4096 k76_j0 (s76_j0 f h0 h0_1 h0_2 h0_3 h0_4 h1 h1_1 h1_2 h1_3 h1_4)=
 some (.agg [.v (.string h0), .v (.bool h0_1), .sl true 3 h0_2, .v (.int .i64 h0_3), .sl true 44 h0_4],[.dead]):=by kernel_rfl
theorem e76_j2 (J f v16 v17 v18 h0 h0_1 h0_2 h0_3 h0_4 h1 h1_1 h1_2 h1_3 h1_4 h2):run tb C76 U76 J (R76 f) 4096 k76_j2 (s76_j2 f v16 v17 v18 h0 h0_1 h0_2 h0_3 h0_4 h1 h1_1 h1_2 h1_3 h1_4 h2)=
 if h0_4.length+[Block.mk h2].length+1≤549755813888∧(h0_4.length+[Block.mk h2].length+1)*24≤549755813888 then
 J k76_j1 (s76_j1 f v16 v17 v18 h0 h0_1 h0_2 h0_3 (h0_4++[Block.mk h2]) h1 h1_1 h1_2 h1_3 h1_4)
 else none:=by kernel_rfl
theorem e76_j1 (J f v16 v17 v18 h0 h0_1 h0_2 h0_3 h0_4 h1 h1_1 h1_2 h1_3 h1_4):run tb C76 U76 J (R76 f) 4096 k76_j1 (s76_j1 f v16 v17 v18 h0 h0_1 h0_2 h0_3 h0_4 h1 h1_1 h1_2 h1_3 h1_4)=
 J k76_l0 (s76_l0 f v16 v17 (IntKind.i64.wrap (v18+1)) h0 h0_1 h0_2 h0_3 h0_4 h1 h1_1 h1_2 h1_3 h1_4):=by kernel_rfl

theorem in76:Entered 76:=⟨Try.f76,b76,by kernel_rfl,by kernel_rfl,by kernel_rfl⟩
theorem fn76 (f:Ev.Func) {res:AV Ty} {outs:List (AV Ty)} (h:Ends C76 U76 (R76 f) [.code b76] ⟨slotsA (a76 f) 0 0,heapA (a76 f)⟩ (some (res,outs))):CallOk tb Try.prog 76 (a76 f) res outs:=by
 obtain ⟨n0,hn⟩:=h
 exact fn_ok (C:=C76) (U:=U76) (n:=0+n0) (q:= .keep) tbOk good (fun f mu S h=>by
  unfold C76 at h
  simp only at h
  split at h
  ·cases h;exact ⟨in80,S80_ok⟩
  ·cases h;exact ⟨in131,S131_ok⟩
  ·cases h) mixed (fn:=Try.f76) (body:=b76) (by kernel_rfl) (by kernel_rfl) rfl rfl (by show 1≤44;omega) (hn 0)
section
variable {f:Ev.Func}
abbrev cpS (f:Ev.Func) (i:Nat):St Ty:=s76_l0 f f.blocks f.blocks.length i f.name f.out f.params f.result (f.blocks.take i) ByteArray.empty false [] 0 []
theorem Copy.in (h:okF f) {i:Nat} (hi:i<f.blocks.length) {k:Nat} (hk:k<(f.blocks.getD i (Block.mk [])).ins.length):
  Goes C76 U76 (R76 f) k76_l2 (s76_l2 f f.blocks f.blocks.length i (f.blocks.getD i (Block.mk [])).ins (f.blocks.getD i (Block.mk [])).ins.length k f.name f.out f.params f.result (f.blocks.take i) ByteArray.empty false [] 0 [] ((f.blocks.getD i (Block.mk [])).ins.take k))
   k76_l2 (s76_l2 f f.blocks f.blocks.length i (f.blocks.getD i (Block.mk [])).ins (f.blocks.getD i (Block.mk [])).ins.length (k+1:Nat) f.name f.out f.params f.result (f.blocks.take i) ByteArray.empty false [] 0 [] ((f.blocks.getD i (Block.mk [])).ins.take (k+1))):= .step fun J=>by
 have h3:=(h.blk hi).1
 have h4:okIns ((f.blocks.getD i (Block.mk [])).ins.getD k (Ins.mk 0 0 0 0 0 [] [])):=(h.blk hi).2 _ (getD_mem hk)
 have h5:((f.blocks.getD i (Block.mk [])).ins.take k).length≤1000:=by rw [List.length_take];omega
 unfold okIns at h4
 rw [e76_l2,take_step (d:=(Ins.mk 0 0 0 0 0 [] [])) hk]
 simp only [Int.toNat_natCast]
 simp (disch:=first|omega|assumption|(rw [dT];omega)|(rw [dF];omega)) only [↓iP,↓iN,iT,iF,wrap_up,tN,Nat.zero_add,List.length_singleton]
 rfl
theorem Copy.out (h:okF f) {i:Nat} (hi:i<f.blocks.length):Goes C76 U76 (R76 f) k76_l0 (cpS f i) k76_l0 (cpS f (i+1)):=by
 have hb:=h.2.1
 refine Goes.trans (k':=k76_l2) (s':=s76_l2 f f.blocks f.blocks.length i (f.blocks.getD i (Block.mk [])).ins (f.blocks.getD i (Block.mk [])).ins.length (0:Nat) f.name f.out f.params f.result (f.blocks.take i) ByteArray.empty false [] 0 [] ((f.blocks.getD i (Block.mk [])).ins.take 0)) (.step fun J=> ?_) ?_
 ·rw [cpS,e76_l0]
  simp (disch:=first|omega|assumption|(rw [dT];omega)|(rw [dF];omega)) only [↓iP,↓iN,iT,iF,wrap_up,tN,Nat.zero_add]
  rfl
 refine Goes.trans (Goes.upto (fun k=>s76_l2 f f.blocks f.blocks.length i (f.blocks.getD i (Block.mk [])).ins (f.blocks.getD i (Block.mk [])).ins.length k f.name f.out f.params f.result (f.blocks.take i) ByteArray.empty false [] 0 [] ((f.blocks.getD i (Block.mk [])).ins.take k)) _ (fun k hk=>Copy.in h hi hk) _ (Nat.le_refl _)) ?_
 refine Goes.trans (k':=k76_j2) (s':=s76_j2 f f.blocks f.blocks.length i f.name f.out f.params f.result (f.blocks.take i) ByteArray.empty false [] 0 [] (f.blocks.getD i (Block.mk [])).ins) (.step fun J=> ?_) (Goes.trans (k':=k76_j1) (s':=s76_j1 f f.blocks f.blocks.length i f.name f.out f.params f.result (f.blocks.take (i+1)) ByteArray.empty false [] 0 []) (.step fun J=> ?_) (.step fun J=> ?_))
 ·rw [e76_l2]
  simp (disch:=first|omega|assumption|(rw [dT];omega)|(rw [dF];omega)) only [↓iP,↓iN,iT,iF,wrap_up,tN,Nat.zero_add,List.take_length]
 ·have h5:(f.blocks.take i).length≤1000:=by rw [List.length_take];omega
  rw [e76_j2,take_step (d:=(Block.mk [])) hi]
  simp (disch:=first|omega|assumption|(rw [dT];omega)|(rw [dF];omega)) only [↓iP,↓iN,iT,iF,wrap_up,tN,Nat.zero_add,List.length_singleton]
 ·rw [e76_j1]
  simp (disch:=first|omega|assumption|(rw [dT];omega)|(rw [dF];omega)) only [↓iP,↓iN,iT,iF,wrap_up,tN,Nat.zero_add]
  rfl
end
theorem copyFunc_ok (f:Ev.Func) (h:okF f):CallOk tb Try.prog 76 (a76 f) (.agg [.v (.string f.name), .v (.bool f.out), .sl true 3 f.params, .v (.int .i64 f.result), .sl true 44 f.blocks]) [.dead]:=by
 have hb:=h.2.1
 have hp:=h.1
 refine fn76 f (Goes.ends (k':=k76_l0) (s':=cpS f 0) (.step fun J=> ?_) ?_)
 ·rw [e76]
  simp (disch:=first|omega|assumption|(rw [dT];omega)|(rw [dF];omega)) only [↓iP,↓iN,iT,iF,wrap_up,tN,Nat.zero_add]
  rfl
 refine Goes.ends (Goes.upto (fun i=>cpS f i) f.blocks.length (fun i hi=>Copy.out h hi) _ (Nat.le_refl _)) ?_
 refine Goes.ends (k':=k76_j0) (s':=s76_j0 f f.name f.out f.params f.result f.blocks ByteArray.empty false [] 0 []) (.step fun J=> ?_) (.step fun J=>e76_j0 ..)
 rw [cpS,e76_l0]
 simp (disch:=first|omega|assumption|(rw [dT];omega)|(rw [dF];omega)) only [↓iP,↓iN,iT,iF,wrap_up,tN,Nat.zero_add,List.take_length]
noncomputable def S76:List (AV Ty)→T (AV Ty×List (AV Ty))
 |[.agg x]=>match cod33.dec false x with
  |some f=> .ite (okF f) (okF.dec f) (.ret (.agg [.v (.string f.name), .v (.bool f.out), .sl true 3 f.params, .v (.int .i64 f.result), .sl true 44 f.blocks],[.dead])) .fail
  |none=> .fail
 |_=> .fail
theorem S76_ok (l:List (AV Ty)) (r:AV Ty) (outs:List (AV Ty)) (h:(S76 l).val=some (r,outs)):CallOk tb Try.prog 76 l r outs:=by
 unfold S76 at h
 split at h
 ·rename_i x
  split at h
  ·rename_i f e1
   rcases ite_val h with ⟨e,h⟩|⟨_,h⟩
   ·cases h
    have h1:=cod33_ok.dec false x f e1
    subst h1
    exact copyFunc_ok f e
   ·cases h
  ·cases h
 ·cases h
end Go.Proofs.Ytggibjbcbicpjaa.Ev
namespace Go.Proofs.Ytggibjbcbicpjaa.Ev
open Go
set_option linter.unusedVariables false
set_option linter.unusedSimpArgs false
def swp (l:List Int) (j:Nat):List Int:=(l.set (j+1) (l.getD j 0)).set j (l.getD (j+1) 0)
def inn:Nat→List Int×List Int→List Int×List Int
 |0,s=>s
 |j+1,s=>if s.2.getD (j+1) 0<s.2.getD j 0 then inn j (swp s.1 j,swp s.2 j) else s
def risen:Nat→List Int×List Int→List Int×List Int
 |0,s=>s
 |k+1,s=>inn (k+1) (risen k s)
theorem swp_len (l:List Int) (j:Nat):(swp l j).length=l.length:=by simp [swp]
theorem inn_len: ∀(j:Nat) (s:List Int×List Int),(inn j s).1.length=s.1.length∧(inn j s).2.length=s.2.length
 |0,s=>⟨rfl,rfl⟩
 |j+1,s=>by
  unfold inn
  split
  ·have:=inn_len j (swp s.1 j,swp s.2 j)
   simpa [swp_len] using this
  ·exact ⟨rfl,rfl⟩
theorem risen_len: ∀(k:Nat) (s:List Int×List Int),(risen k s).1.length=s.1.length∧(risen k s).2.length=s.2.length
 |0,s=>⟨rfl,rfl⟩
 |k+1,s=>by
  have h1:=inn_len (k+1) (risen k s)
  have h2:=risen_len k s
  exact ⟨h1.1.trans h2.1,h1.2.trans h2.2⟩
theorem swp_get {l:List Int} {j:Nat} (h:j+1<l.length) (i:Nat):(swp l j).getD i 0=if i=j then l.getD (j+1) 0 else if i=j+1 then l.getD j 0 else l.getD i 0:=by
 simp only [swp,List.getD_eq_getElem?_getD,List.getElem?_set,List.length_set]
 by_cases h1:i=j
 ·subst h1
  rw [if_pos rfl,if_pos (by omega),if_pos rfl]
  rfl
 ·rw [if_neg (by omega),if_neg h1]
  by_cases h2:i=j+1
  ·subst h2
   rw [if_pos rfl,if_pos h,if_pos rfl]
   rfl
  ·rw [if_neg (by omega),if_neg h2]
def Near (t:List Int) (n j:Nat):Prop:=(∀i,i+1≤n→i+1≠j→t.getD i 0≤t.getD (i+1) 0)∧(∀i,j=i+1→j+1≤n→t.getD i 0≤t.getD (j+1) 0)
def Sorted (t:List Int) (n:Nat):Prop:= ∀i,i+1≤n→t.getD i 0≤t.getD (i+1) 0
theorem inn_sorts: ∀(j:Nat) (s:List Int×List Int) (n:Nat),n<s.2.length→j≤n→Near s.2 n j→Sorted (inn j s).2 n
 |0,s,n,_,_,h=>fun i hi=>h.1 i hi (by omega)
 |j+1,s,n,hl,hj,h=>by
  unfold inn
  split
  ·rename_i hlt
   refine inn_sorts j _ n (by rw [swp_len];exact hl) (by omega) ⟨fun i hi hn=> ?_,fun i e hi=> ?_⟩
   ·show (swp s.2 j).getD i 0≤(swp s.2 j).getD (i+1) 0
    rw [swp_get (by omega),swp_get (by omega)]
    by_cases h1:i=j
    ·subst h1
     rw [if_pos rfl,if_neg (by omega),if_pos rfl]
     omega
    ·rw [if_neg h1]
     by_cases h2:i=j+1
     ·subst h2
      rw [if_pos rfl,if_neg (by omega),if_neg (by omega)]
      exact h.2 j rfl hi
     ·rw [if_neg h2,if_neg (by omega),if_neg (by omega)]
      exact h.1 i hi (by omega)
   ·show (swp s.2 j).getD i 0≤(swp s.2 j).getD (j+1) 0
    subst e
    rw [swp_get (by omega),swp_get (by omega),if_neg (by omega),if_neg (by omega),if_neg (by omega),if_pos rfl]
    exact h.1 i (by omega) (by omega)
  ·rename_i hlt
   intro i hi
   by_cases e:i=j
   ·subst e;omega
   ·exact h.1 i hi (by omega)
theorem risen_sorts: ∀(k:Nat) (s:List Int×List Int),k<s.2.length→Sorted (risen k s).2 k
 |0,s,_=>fun i hi=>by omega
 |k+1,s,h=>by
  have ih:=risen_sorts k s (by omega)
  have hl:=(risen_len k s).2
  exact inn_sorts (k+1) (risen k s) (k+1) (by omega) (Nat.le_refl _) ⟨fun i hi hn=>ih i (by omega),fun i e hi=>by omega⟩
theorem inn_still {j:Nat} {s:List Int×List Int} (h: ∀i,j=i+1→s.2.getD i 0≤s.2.getD j 0):inn j s=s:=by
 cases j with
 |zero=>rfl
 |succ j=>
  unfold inn
  rw [if_neg (by have:=h j rfl;omega)]
theorem risen_still: ∀(k:Nat) (s:List Int×List Int),Sorted s.2 k→risen k s=s
 |0,s,_=>rfl
 |k+1,s,h=>by
  unfold risen
  rw [risen_still k s fun i hi=>h i (by omega)]
  exact inn_still fun i e=>by cases e;exact h k (Nat.le_refl _)
def riseF (a t:List Int):List Int×List Int:=risen (t.length-1) (a,t)
theorem riseF_len (a t:List Int):(riseF a t).1.length=a.length∧(riseF a t).2.length=t.length:=risen_len _ _
noncomputable def b77:Code:=bodyOf Try.f77
noncomputable def C77:Cfg Ty:=⟨fun _=>none,fun _=>false,92,1⟩
def U77:Cuts:=⟨fun
 |0=>some []
 |1=>some [(0,none),(2,none)]
 |2=>some [(0,none),(2,none)]
 |_=>none,fun
 |0=>some [(0,none),(2,none)]
 |2=>some [(0,none),(2,none),(3,none)]
 |_=>none,fun _=>none⟩
noncomputable def k77_j0:List Item:=[]
noncomputable def k77_l0:List Item:=[.code (inC (inC (sndC b77))), .inLoop (inC (inC (sndC b77))), .inBlock 0]
noncomputable def k77_j1:List Item:=[.code (sndC (sndC (inC (inC (sndC b77))))), .inLoop (inC (inC (sndC b77))), .inBlock 0]
noncomputable def k77_j2:List Item:=[.inBlock 1, .code (sndC (sndC (inC (inC (sndC b77))))), .inLoop (inC (inC (sndC b77))), .inBlock 0]
noncomputable def k77_l2:List Item:=[.code (inC (inC (sndC (inC (fstC (sndC (inC (inC (sndC b77))))))))), .inLoop (inC (inC (sndC (inC (fstC (sndC (inC (inC (sndC b77))))))))), .inBlock 2, .inBlock 1, .code (sndC (sndC (inC (inC (sndC b77))))), .inLoop (inC (inC (sndC b77))), .inBlock 0]
def a77 (op:Int) (ty:Int) (to:Int) (sy:Int) (nu:Int) (ar:List Int) (into:List Int):List (AV Ty):=[.box true (46:Nat) (Ins.mk op ty to sy nu ar into)]
noncomputable def R77 (op:Int) (ty:Int) (to:Int) (sy:Int) (nu:Int) (ar:List Int) (into:List Int):St Ty→EvR:=resT tb C77 Try.f77.results.toList .keep (a77 op ty to sy nu ar into)
def s77_l0 (op:Int) (ty:Int) (to:Int) (sy:Int) (nu:Int) (ar:List Int) (into:List Int) (v2:Int) (h0:Int) (h0_1:Int) (h0_2:Int) (h0_3:Int) (h0_4:Int) (h0_5:List Int) (h0_6:List Int):St Ty:=St.mk [(0, .ptr (0) [] (0) (0)),(2, .v (.int .i64 v2))] [some (Root.mk (46) true [Ins.mk h0 h0_1 h0_2 h0_3 h0_4 h0_5 h0_6])]
def s77_l2 (op:Int) (ty:Int) (to:Int) (sy:Int) (nu:Int) (ar:List Int) (into:List Int) (v2:Int) (v3:Int) (h0:Int) (h0_1:Int) (h0_2:Int) (h0_3:Int) (h0_4:Int) (h0_5:List Int) (h0_6:List Int):St Ty:=St.mk [(0, .ptr (0) [] (0) (0)),(2, .v (.int .i64 v2)),(3, .v (.int .i64 v3))] [some (Root.mk (46) true [Ins.mk h0 h0_1 h0_2 h0_3 h0_4 h0_5 h0_6])]
def s77_j0 (op:Int) (ty:Int) (to:Int) (sy:Int) (nu:Int) (ar:List Int) (into:List Int) (h0:Int) (h0_1:Int) (h0_2:Int) (h0_3:Int) (h0_4:Int) (h0_5:List Int) (h0_6:List Int):St Ty:=St.mk [] [some (Root.mk (46) true [Ins.mk h0 h0_1 h0_2 h0_3 h0_4 h0_5 h0_6])]
def s77_j2 (op:Int) (ty:Int) (to:Int) (sy:Int) (nu:Int) (ar:List Int) (into:List Int) (v2:Int) (h0:Int) (h0_1:Int) (h0_2:Int) (h0_3:Int) (h0_4:Int) (h0_5:List Int) (h0_6:List Int):St Ty:=St.mk [(0, .ptr (0) [] (0) (0)),(2, .v (.int .i64 v2))] [some (Root.mk (46) true [Ins.mk h0 h0_1 h0_2 h0_3 h0_4 h0_5 h0_6])]
def s77_j1 (op:Int) (ty:Int) (to:Int) (sy:Int) (nu:Int) (ar:List Int) (into:List Int) (v2:Int) (h0:Int) (h0_1:Int) (h0_2:Int) (h0_3:Int) (h0_4:Int) (h0_5:List Int) (h0_6:List Int):St Ty:=St.mk [(0, .ptr (0) [] (0) (0)),(2, .v (.int .i64 v2))] [some (Root.mk (46) true [Ins.mk h0 h0_1 h0_2 h0_3 h0_4 h0_5 h0_6])]
theorem e77 (J op ty to sy nu ar into):run tb C77 U77 J (R77 op ty to sy nu ar into) 4096 [.code b77] ⟨slotsA (a77 op ty to sy nu ar into) 0 0,heapA (a77 op ty to sy nu ar into)⟩=
 J k77_l0 (s77_l0 op ty to sy nu ar into (1) op ty to sy nu ar into):=by kernel_rfl
theorem e77_l0 (J op ty to sy nu ar into v2 h0 h0_1 h0_2 h0_3 h0_4 h0_5 h0_6):run tb C77 U77 J (R77 op ty to sy nu ar into) 4096 k77_l0 (s77_l0 op ty to sy nu ar into v2 h0 h0_1 h0_2 h0_3 h0_4 h0_5 h0_6)=
 if decide (v2<(↑h0_6.length:Int))=true then
 J k77_l2 (s77_l2 op ty to sy nu ar into v2 v2 h0 h0_1 h0_2 h0_3 h0_4 h0_5 h0_6)
 else
 J k77_j0 (s77_j0 op ty to sy nu ar into h0 h0_1 h0_2 h0_3 h0_4 h0_5 h0_6):=by kernel_rfl
theorem e77_l2 (J op ty to sy nu ar into v2 v3 h0 h0_1 h0_2 h0_3 h0_4 h0_5 h0_6):run tb C77 U77 J (R77 op ty to sy nu ar into) 4096 k77_l2 (s77_l2 op ty to sy nu ar into v2 v3 h0 h0_1 h0_2 h0_3 h0_4 h0_5 h0_6)=
 if decide (v3>0)=true then
 if 0≤v3 then
 if v3<(↑h0_6.length:Int) then
 if 0≤IntKind.i64.wrap (v3-1) then
 if IntKind.i64.wrap (v3-1)<(↑h0_6.length:Int) then
 if decide (h0_6.getD (0+v3.toNat) 0<h0_6.getD (0+(IntKind.i64.wrap (v3-1)).toNat) 0)=true then
 if 0≤IntKind.i64.wrap (v3-1) then
 if IntKind.i64.wrap (v3-1)<(↑h0_6.length:Int) then
 if 0≤v3 then
 if v3<(↑h0_6.length:Int) then
 if 0≤v3 then
 if v3<(↑h0_6.length:Int) then
 if 0≤IntKind.i64.wrap (v3-1) then
 if IntKind.i64.wrap (v3-1)<(↑(h0_6.set (0+v3.toNat) (h0_6.getD (0+(IntKind.i64.wrap (v3-1)).toNat) 0)).length:Int) then
 if 0≤IntKind.i64.wrap (v3-1) then
 if IntKind.i64.wrap (v3-1)<(↑h0_5.length:Int) then
 if 0≤v3 then
 if v3<(↑h0_5.length:Int) then
 if 0≤v3 then
 if v3<(↑h0_5.length:Int) then
 if 0≤IntKind.i64.wrap (v3-1) then
 if IntKind.i64.wrap (v3-1)<(↑(h0_5.set (0+v3.toNat) (h0_5.getD (0+(IntKind.i64.wrap (v3-1)).toNat) 0)).length:Int) then
 J k77_l2 (s77_l2 op ty to sy nu ar into v2 (IntKind.i64.wrap (v3-1)) h0 h0_1 h0_2 h0_3 h0_4 ((h0_5.set (0+v3.toNat) (h0_5.getD (0+(IntKind.i64.wrap (v3-1)).toNat) 0)).set (0+(IntKind.i64.wrap (v3-1)).toNat) (h0_5.getD (0+v3.toNat) 0)) ((h0_6.set (0+v3.toNat) (h0_6.getD (0+(IntKind.i64.wrap (v3-1)).toNat) 0)).set (0+(IntKind.i64.wrap (v3-1)).toNat) (h0_6.getD (0+v3.toNat) 0)))
 else none
 else none
 else none
 else none
 else none
 else none
 else none
 else none
 else none
 else none
 else none
 else none
 else none
 else none
 else none
 else none
 else
 J k77_j2 (s77_j2 op ty to sy nu ar into v2 h0 h0_1 h0_2 h0_3 h0_4 h0_5 h0_6)
 else none
 else none
 else none
 else none
 else
 J k77_j2 (s77_j2 op ty to sy nu ar into v2 h0 h0_1 h0_2 h0_3 h0_4 h0_5 h0_6):=by kernel_rfl
theorem e77_j0 (J op ty to sy nu ar into h0 h0_1 h0_2 h0_3 h0_4 h0_5 h0_6):run tb C77 U77 J (R77 op ty to sy nu ar into) 4096 k77_j0 (s77_j0 op ty to sy nu ar into h0 h0_1 h0_2 h0_3 h0_4 h0_5 h0_6)=
 some (.tup [],[.box true (46) (Ins.mk h0 h0_1 h0_2 h0_3 h0_4 h0_5 h0_6)]):=by kernel_rfl
theorem e77_j2 (J op ty to sy nu ar into v2 h0 h0_1 h0_2 h0_3 h0_4 h0_5 h0_6):run tb C77 U77 J (R77 op ty to sy nu ar into) 4096 k77_j2 (s77_j2 op ty to sy nu ar into v2 h0 h0_1 h0_2 h0_3 h0_4 h0_5 h0_6)=
 J k77_j1 (s77_j1 op ty to sy nu ar into v2 h0 h0_1 h0_2 h0_3 h0_4 h0_5 h0_6):=by kernel_rfl
theorem e77_j1 (J op ty to sy nu ar into v2 h0 h0_1 h0_2 h0_3 h0_4 h0_5 h0_6):run tb C77 U77 J (R77 op ty to sy nu ar into) 4096 k77_j1 (s77_j1 op ty to sy nu ar into v2 h0 h0_1 h0_2 h0_3 h0_4 h0_5 h0_6)=
 J k77_l0 (s77_l0 op ty to sy nu ar into (IntKind.i64.wrap (v2+1)) h0 h0_1 h0_2 h0_3 h0_4 h0_5 h0_6):=by kernel_rfl

theorem in77:Entered 77:=⟨Try.f77,b77,by kernel_rfl,by kernel_rfl,by kernel_rfl⟩
theorem fn77 (op ty to sy nu:Int) (ar into:List Int) {res:AV Ty} {outs:List (AV Ty)} (h:Ends C77 U77 (R77 op ty to sy nu ar into) [.code b77] ⟨slotsA (a77 op ty to sy nu ar into) 0 0,heapA (a77 op ty to sy nu ar into)⟩ (some (res,outs))):CallOk tb Try.prog 77 (a77 op ty to sy nu ar into) res outs:=by
 obtain ⟨n0,hn⟩:=h
 exact fn_ok (C:=C77) (U:=U77) (n:=0+n0) (q:= .keep) tbOk good (fun f mu S h=>by cases h) mixed (fn:=Try.f77) (body:=b77) (by kernel_rfl) (by kernel_rfl) rfl rfl (by show 1≤92;omega) (hn 0)
section
variable {op ty to sy nu:Int} {ar into:List Int}
theorem Rise.in {k:Nat}: ∀(j:Nat) (s:List Int×List Int),s.1.length=s.2.length→s.2.length≤1000→j<s.2.length→
  Goes C77 U77 (R77 op ty to sy nu ar into) k77_l2 (s77_l2 op ty to sy nu ar into k j op ty to sy nu s.1 s.2) k77_j2 (s77_j2 op ty to sy nu ar into k op ty to sy nu (inn j s).1 (inn j s).2)
 |0,s,h1,h2,hj=> .step fun J=>by
  rw [e77_l2]
  simp (disch:=first|omega|assumption|(rw [dT];omega)|(rw [dF];omega)) only [↓iP,↓iN,iT,iF,wrap_up,tN,Nat.zero_add]
  rfl
 |j+1,s,h1,h2,hj=>by
  have e1:(((j+1:Nat):Int)-1)=(j:Int):=by omega
  by_cases h:s.2.getD (j+1) 0<s.2.getD j 0
  ·have ih:=Rise.in (k:=k) j (swp s.1 j,swp s.2 j) (by rw [swp_len,swp_len];exact h1) (by rw [swp_len];exact h2) (by rw [swp_len];omega)
   unfold inn
   rw [if_pos h]
   refine Goes.trans (.step fun J=> ?_) ih
   rw [e77_l2,e1]
   have e2:IntKind.i64.wrap (j:Int)=(j:Int):=wrap_up (by omega)
   simp only [e2,Int.toNat_natCast,Nat.zero_add,List.length_set]
   simp (disch:=first|omega|assumption|(rw [dT];omega)|(rw [dF];omega)) only [↓iP,↓iN,iT,iF,wrap_up,tN,Nat.zero_add]
   rfl
  ·unfold inn
   rw [if_neg h]
   refine .step fun J=> ?_
   rw [e77_l2,e1]
   have e2:IntKind.i64.wrap (j:Int)=(j:Int):=wrap_up (by omega)
   simp only [e2,Int.toNat_natCast,Nat.zero_add,List.length_set]
   simp (disch:=first|omega|assumption|(rw [dT];omega)|(rw [dF];omega)) only [↓iP,↓iN,iT,iF,wrap_up,tN,Nat.zero_add]
theorem Rise.out (h1:ar.length=into.length) (h2:into.length≤1000) {k:Nat} (hk:k+1<into.length):
  Goes C77 U77 (R77 op ty to sy nu ar into) k77_l0 (s77_l0 op ty to sy nu ar into (k+1:Nat) op ty to sy nu (risen k (ar,into)).1 (risen k (ar,into)).2)
   k77_l0 (s77_l0 op ty to sy nu ar into (k+1+1:Nat) op ty to sy nu (risen (k+1) (ar,into)).1 (risen (k+1) (ar,into)).2):=by
 obtain ⟨l1,l2⟩:=risen_len k (ar,into)
 simp only at l1 l2
 refine Goes.trans (.step fun J=> ?_) (Goes.trans (Rise.in (k:=k+1) (k+1) (risen k (ar,into)) (by omega) (by omega) (by omega)) (Goes.trans (.step fun J=>e77_j2 ..) (.step fun J=> ?_)))
 ·rw [e77_l0]
  simp (disch:=first|omega|assumption|(rw [dT];omega)|(rw [dF];omega)) only [↓iP,↓iN,iT,iF,wrap_up,tN,Nat.zero_add]
 ·rw [e77_j1]
  simp (disch:=first|omega|assumption|(rw [dT];omega)|(rw [dF];omega)) only [↓iP,↓iN,iT,iF,wrap_up,tN,Nat.zero_add]
  rfl
theorem rise_ok (h1:ar.length=into.length) (h2:into.length≤1000):CallOk tb Try.prog 77 (a77 op ty to sy nu ar into) (.tup []) [.box true 46 (⟨op,ty,to,sy,nu,(riseF ar into).1,(riseF ar into).2⟩:Ev.Ins)]:=by
 refine fn77 op ty to sy nu ar into (Goes.ends (.step fun J=>e77 J ..) ?_)
 have go: ∀k,k≤into.length-1→Goes C77 U77 (R77 op ty to sy nu ar into) k77_l0 (s77_l0 op ty to sy nu ar into (0+1:Nat) op ty to sy nu ar into) k77_l0 (s77_l0 op ty to sy nu ar into (k+1:Nat) op ty to sy nu (risen k (ar,into)).1 (risen k (ar,into)).2):=
  Goes.upto (fun k=>s77_l0 op ty to sy nu ar into (k+1:Nat) op ty to sy nu (risen k (ar,into)).1 (risen k (ar,into)).2) (into.length-1) fun k hk=>Rise.out h1 h2 (by omega)
 refine Goes.ends (go _ (Nat.le_refl _)) ?_
 obtain ⟨l1,l2⟩:=risen_len (into.length-1) (ar,into)
 simp only at l1 l2
 refine Goes.ends (.step fun J=> ?_) (.step fun J=>e77_j0 J op ty to sy nu ar into op ty to sy nu (riseF ar into).1 (riseF ar into).2)
 rw [e77_l0]
 simp (disch:=first|omega|assumption|(rw [dT];omega)|(rw [dF];omega)) only [↓iP,↓iN,iT,iF,wrap_up,tN,Nat.zero_add]
 rfl
end
def S77:List (AV Ty)→T (AV Ty×List (AV Ty))
 |[.box true 46 i]=> .ite ((show Ev.Ins from i).args.length=(show Ev.Ins from i).into.length∧(show Ev.Ins from i).into.length≤1000) inferInstance
   (.ret (.tup [],[.box true 46 (⟨(show Ev.Ins from i).op,(show Ev.Ins from i).type_,(show Ev.Ins from i).to_,(show Ev.Ins from i).sym_,(show Ev.Ins from i).num,(riseF (show Ev.Ins from i).args (show Ev.Ins from i).into).1,(riseF (show Ev.Ins from i).args (show Ev.Ins from i).into).2⟩:Ev.Ins)])) .fail
 |_=> .fail
theorem S77_ok (l:List (AV Ty)) (r:AV Ty) (outs:List (AV Ty)) (h:(S77 l).val=some (r,outs)):CallOk tb Try.prog 77 l r outs:=by
 unfold S77 at h
 split at h
 ·rename_i i
  rcases ite_val h with ⟨e,h⟩|⟨_,h⟩
  ·cases h
   exact rise_ok (op:=(show Ev.Ins from i).op) (ty:=(show Ev.Ins from i).type_) (to:=(show Ev.Ins from i).to_) (sy:=(show Ev.Ins from i).sym_) (nu:=(show Ev.Ins from i).num) e.1 e.2
  ·cases h
 ·cases h
end Go.Proofs.Ytggibjbcbicpjaa.Ev
namespace Go.Proofs.Ytggibjbcbicpjaa.Ev
open Go
set_option linter.unusedVariables false
set_option linter.unusedSimpArgs false
def rdI (l:List Ev.Block) (b k:Nat):Ev.Ins:=(l.getD b (Block.mk [])).ins.getD k (Ins.mk 0 0 0 0 0 [] [])
def wrI (l:List Ev.Block) (b k:Nat) (x:Ev.Ins):List Ev.Block:=l.set b (Block.mk ((l.getD b (Block.mk [])).ins.set k x))
end Go.Proofs.Ytggibjbcbicpjaa.Ev
namespace Go.Proofs.Ytggibjbcbicpjaa.Ev
open Go
set_option linter.unusedVariables false
set_option linter.unusedSimpArgs false
theorem blk_mid {A C:List Ev.Block} {b:Ev.Block}:(A++b :: C).getD A.length (Block.mk [])=b:=by simp [List.getD_eq_getElem?_getD]
theorem rdI_mid {A C:List Ev.Block} {P Q:List Ev.Ins} {i:Ev.Ins}:rdI (A++Block.mk (P++i :: Q) :: C) A.length P.length=i:=by
 unfold rdI
 rw [blk_mid]
 simp [List.getD_eq_getElem?_getD]
theorem wrI_mid {A C:List Ev.Block} {P Q:List Ev.Ins} {i x:Ev.Ins}:wrI (A++Block.mk (P++i :: Q) :: C) A.length P.length x=A++Block.mk (P++x :: Q) :: C:=by
 unfold wrI
 rw [blk_mid]
 simp
def risI (i:Ev.Ins):Ev.Ins:=if i.op=26∧i.args.length=i.into.length then ⟨i.op,i.type_,i.to_,i.sym_,i.num,(riseF i.args i.into).1,(riseF i.args i.into).2⟩ else i
def num1 (n:Nat) (i:Ev.Ins):Ev.Ins:=⟨(risI i).op,(risI i).type_,if i.type_=0 then 0 else ((n+1:Nat):Int),(risI i).sym_,(risI i).num,(risI i).args,(risI i).into⟩
def step1 (n:Nat) (i:Ev.Ins):Nat:=if i.type_=0 then n else n+1
def key (x:Int):Value:= .int .i64 x
def map1 (m:List (Value×Int)) (n:Nat) (i:Ev.Ins):List (Value×Int):=if i.type_=0 then m else match mget m (key i.to_) with
 |some _=>m
 |none=>mput m (key i.to_) ((n+1:Nat):Int)
def numL:Nat→List Ev.Ins→List Ev.Ins
 |_,[]=>[]
 |n,i :: l=>num1 n i :: numL (step1 n i) l
def stepL:Nat→List Ev.Ins→Nat
 |n,[]=>n
 |n,i :: l=>stepL (step1 n i) l
def mapL:List (Value×Int)→Nat→List Ev.Ins→List (Value×Int)
 |m,_,[]=>m
 |m,n,i :: l=>mapL (map1 m n i) (step1 n i) l
def numB:Nat→List Ev.Block→List Ev.Block
 |_,[]=>[]
 |n,b :: l=>Block.mk (numL n b.ins) :: numB (stepL n b.ins) l
def stepB:Nat→List Ev.Block→Nat
 |n,[]=>n
 |n,b :: l=>stepB (stepL n b.ins) l
def mapB:List (Value×Int)→Nat→List Ev.Block→List (Value×Int)
 |m,_,[]=>m
 |m,n,b :: l=>mapB (mapL m n b.ins) (stepL n b.ins) l
def subV (m:List (Value×Int)) (p:Nat) (v:Int):Int:=if 1≤v∧v≤p then v else (mget m (key v)).getD 0
def subI (m:List (Value×Int)) (p:Nat) (i:Ev.Ins):Ev.Ins:=⟨i.op,i.type_,i.to_,i.sym_,i.num,i.args.map (subV m p),i.into⟩
def subB (m:List (Value×Int)) (p:Nat) (b:Ev.Block):Ev.Block:=Block.mk (b.ins.map (subI m p))
def neatB (p:Nat) (l:List Ev.Block):List Ev.Block:=(numB p l).map (subB (mapB [] p l) p)
def neatF (f:Ev.Func):Ev.Func:=⟨f.name,f.out,f.params,f.result,neatB f.params.length f.blocks⟩
theorem risI_type (i:Ev.Ins):(risI i).type_=i.type_∧(risI i).to_=i.to_∧(risI i).op=i.op:=by
 unfold risI
 split<;>exact ⟨rfl,rfl,rfl⟩
theorem stepL_le: ∀(l:List Ev.Ins) (n:Nat),n≤stepL n l∧stepL n l≤n+l.length
 |[],n=>⟨Nat.le_refl _,Nat.le_refl _⟩
 |i :: l,n=>by
  have:=stepL_le l (step1 n i)
  have h:n≤step1 n i∧step1 n i≤n+1:=by unfold step1;split<;>omega
  simp only [stepL,List.length_cons]
  omega
theorem stepB_le: ∀(l:List Ev.Block) (n:Nat),n≤stepB n l∧stepB n l≤n+szT l
 |[],n=>⟨Nat.le_refl _,Nat.le_refl _⟩
 |b :: l,n=>by
  have:=stepB_le l (stepL n b.ins)
  have:=stepL_le b.ins n
  simp only [stepB,szT,List.map_cons,List.sum_cons] at*
  omega
noncomputable def b26:Code:=bodyOf Try.f26
noncomputable def C26:Cfg Ty:=⟨fun
 |76=>some ([],S76)
 |77=>some ([true],S77)
 |_=>none,fun
 |1=>true
 |2=>true
 |300001=>true
 |400142=>true
 |500012=>true
 |_=>false,143,0⟩
def U26:Cuts:=⟨fun
 |0=>some [(1,none),(2,none),(3,none)]
 |1=>some [(1,none),(2,none),(3,none),(4,none),(23,none),(24,none)]
 |2=>some [(1,none),(2,none),(3,none),(4,none),(23,none),(24,none)]
 |3=>some [(1,none),(2,none),(3,none),(4,none),(5,none),(23,none),(24,none),(33,none),(34,none)]
 |4=>some [(1,none),(2,none)]
 |5=>some [(1,none),(2,none),(3,none),(100,none),(101,none)]
 |6=>some [(1,none),(2,none),(3,none),(100,none),(101,none)]
 |7=>some [(1,none),(2,none),(3,none),(100,none),(101,none),(109,none),(110,none),(111,none)]
 |8=>some [(1,none),(2,none),(3,none),(100,none),(101,none),(109,none),(110,none),(111,none)]
 |9=>some [(1,none),(2,none),(3,none),(12,none),(100,none),(101,none),(109,none),(110,none),(111,none),(116,none),(117,none),(118,none)]
 |_=>none,fun
 |0=>some [(1,none),(2,none),(3,none),(4,none),(23,none),(24,none)]
 |2=>some [(1,none),(2,none),(3,none),(4,none),(5,none),(23,none),(24,none),(33,none),(34,none)]
 |4=>some [(1,none),(2,none),(3,none),(100,none),(101,none)]
 |6=>some [(1,none),(2,none),(3,none),(100,none),(101,none),(109,none),(110,none),(111,none)]
 |8=>some [(1,none),(2,none),(3,none),(12,none),(100,none),(101,none),(109,none),(110,none),(111,none),(116,none),(117,none),(118,none)]
 |_=>none,fun _=>none⟩
noncomputable def k26_j0:List Item:=[.code (sndC (sndC (sndC (sndC (sndC b26)))))]
noncomputable def k26_l0:List Item:=[.code (inC (inC (sndC (fstC (sndC (sndC (sndC (sndC b26)))))))), .inLoop (inC (inC (sndC (fstC (sndC (sndC (sndC (sndC b26)))))))), .inBlock 0, .code (sndC (sndC (sndC (sndC (sndC b26)))))]
noncomputable def k26_j1:List Item:=[.code (sndC (sndC (sndC (inC (inC (sndC (fstC (sndC (sndC (sndC (sndC b26))))))))))), .inLoop (inC (inC (sndC (fstC (sndC (sndC (sndC (sndC b26)))))))), .inBlock 0, .code (sndC (sndC (sndC (sndC (sndC b26)))))]
noncomputable def k26_j2:List Item:=[.inBlock 1, .code (sndC (sndC (sndC (inC (inC (sndC (fstC (sndC (sndC (sndC (sndC b26))))))))))), .inLoop (inC (inC (sndC (fstC (sndC (sndC (sndC (sndC b26)))))))), .inBlock 0, .code (sndC (sndC (sndC (sndC (sndC b26)))))]
noncomputable def k26_l2:List Item:=[.code (inC (inC (sndC (sndC (inC (fstC (sndC (sndC (inC (inC (sndC (fstC (sndC (sndC (sndC (sndC b26)))))))))))))))), .inLoop (inC (inC (sndC (sndC (inC (fstC (sndC (sndC (inC (inC (sndC (fstC (sndC (sndC (sndC (sndC b26)))))))))))))))), .inBlock 2, .inBlock 1, .code (sndC (sndC (sndC (inC (inC (sndC (fstC (sndC (sndC (sndC (sndC b26))))))))))), .inLoop (inC (inC (sndC (fstC (sndC (sndC (sndC (sndC b26)))))))), .inBlock 0, .code (sndC (sndC (sndC (sndC (sndC b26)))))]
noncomputable def k26_j3:List Item:=[.code (sndC (sndC (sndC (inC (inC (sndC (sndC (inC (fstC (sndC (sndC (inC (inC (sndC (fstC (sndC (sndC (sndC (sndC b26))))))))))))))))))), .inLoop (inC (inC (sndC (sndC (inC (fstC (sndC (sndC (inC (inC (sndC (fstC (sndC (sndC (sndC (sndC b26)))))))))))))))), .inBlock 2, .inBlock 1, .code (sndC (sndC (sndC (inC (inC (sndC (fstC (sndC (sndC (sndC (sndC b26))))))))))), .inLoop (inC (inC (sndC (fstC (sndC (sndC (sndC (sndC b26)))))))), .inBlock 0, .code (sndC (sndC (sndC (sndC (sndC b26)))))]
noncomputable def k26_j4:List Item:=[.code (sndC (sndC (sndC (sndC (sndC (sndC b26))))))]
noncomputable def k26_l4:List Item:=[.code (inC (inC (sndC (fstC (sndC (sndC (sndC (sndC (sndC b26))))))))), .inLoop (inC (inC (sndC (fstC (sndC (sndC (sndC (sndC (sndC b26))))))))), .inBlock 4, .code (sndC (sndC (sndC (sndC (sndC (sndC b26))))))]
noncomputable def k26_j5:List Item:=[.code (sndC (sndC (sndC (inC (inC (sndC (fstC (sndC (sndC (sndC (sndC (sndC b26)))))))))))), .inLoop (inC (inC (sndC (fstC (sndC (sndC (sndC (sndC (sndC b26))))))))), .inBlock 4, .code (sndC (sndC (sndC (sndC (sndC (sndC b26))))))]
noncomputable def k26_j6:List Item:=[.inBlock 5, .code (sndC (sndC (sndC (inC (inC (sndC (fstC (sndC (sndC (sndC (sndC (sndC b26)))))))))))), .inLoop (inC (inC (sndC (fstC (sndC (sndC (sndC (sndC (sndC b26))))))))), .inBlock 4, .code (sndC (sndC (sndC (sndC (sndC (sndC b26))))))]
noncomputable def k26_l6:List Item:=[.code (inC (inC (sndC (sndC (inC (fstC (sndC (sndC (inC (inC (sndC (fstC (sndC (sndC (sndC (sndC (sndC b26))))))))))))))))), .inLoop (inC (inC (sndC (sndC (inC (fstC (sndC (sndC (inC (inC (sndC (fstC (sndC (sndC (sndC (sndC (sndC b26))))))))))))))))), .inBlock 6, .inBlock 5, .code (sndC (sndC (sndC (inC (inC (sndC (fstC (sndC (sndC (sndC (sndC (sndC b26)))))))))))), .inLoop (inC (inC (sndC (fstC (sndC (sndC (sndC (sndC (sndC b26))))))))), .inBlock 4, .code (sndC (sndC (sndC (sndC (sndC (sndC b26))))))]
noncomputable def k26_j7:List Item:=[.code (sndC (sndC (sndC (inC (inC (sndC (sndC (inC (fstC (sndC (sndC (inC (inC (sndC (fstC (sndC (sndC (sndC (sndC (sndC b26)))))))))))))))))))), .inLoop (inC (inC (sndC (sndC (inC (fstC (sndC (sndC (inC (inC (sndC (fstC (sndC (sndC (sndC (sndC (sndC b26))))))))))))))))), .inBlock 6, .inBlock 5, .code (sndC (sndC (sndC (inC (inC (sndC (fstC (sndC (sndC (sndC (sndC (sndC b26)))))))))))), .inLoop (inC (inC (sndC (fstC (sndC (sndC (sndC (sndC (sndC b26))))))))), .inBlock 4, .code (sndC (sndC (sndC (sndC (sndC (sndC b26))))))]
noncomputable def k26_j8:List Item:=[.inBlock 7, .code (sndC (sndC (sndC (inC (inC (sndC (sndC (inC (fstC (sndC (sndC (inC (inC (sndC (fstC (sndC (sndC (sndC (sndC (sndC b26)))))))))))))))))))), .inLoop (inC (inC (sndC (sndC (inC (fstC (sndC (sndC (inC (inC (sndC (fstC (sndC (sndC (sndC (sndC (sndC b26))))))))))))))))), .inBlock 6, .inBlock 5, .code (sndC (sndC (sndC (inC (inC (sndC (fstC (sndC (sndC (sndC (sndC (sndC b26)))))))))))), .inLoop (inC (inC (sndC (fstC (sndC (sndC (sndC (sndC (sndC b26))))))))), .inBlock 4, .code (sndC (sndC (sndC (sndC (sndC (sndC b26))))))]
noncomputable def k26_l8:List Item:=[.code (inC (inC (sndC (sndC (inC (fstC (sndC (sndC (inC (inC (sndC (sndC (inC (fstC (sndC (sndC (inC (inC (sndC (fstC (sndC (sndC (sndC (sndC (sndC b26))))))))))))))))))))))))), .inLoop (inC (inC (sndC (sndC (inC (fstC (sndC (sndC (inC (inC (sndC (sndC (inC (fstC (sndC (sndC (inC (inC (sndC (fstC (sndC (sndC (sndC (sndC (sndC b26))))))))))))))))))))))))), .inBlock 8, .inBlock 7, .code (sndC (sndC (sndC (inC (inC (sndC (sndC (inC (fstC (sndC (sndC (inC (inC (sndC (fstC (sndC (sndC (sndC (sndC (sndC b26)))))))))))))))))))), .inLoop (inC (inC (sndC (sndC (inC (fstC (sndC (sndC (inC (inC (sndC (fstC (sndC (sndC (sndC (sndC (sndC b26))))))))))))))))), .inBlock 6, .inBlock 5, .code (sndC (sndC (sndC (inC (inC (sndC (fstC (sndC (sndC (sndC (sndC (sndC b26)))))))))))), .inLoop (inC (inC (sndC (fstC (sndC (sndC (sndC (sndC (sndC b26))))))))), .inBlock 4, .code (sndC (sndC (sndC (sndC (sndC (sndC b26))))))]
noncomputable def k26_j9:List Item:=[.code (sndC (sndC (sndC (inC (inC (sndC (sndC (inC (fstC (sndC (sndC (inC (inC (sndC (sndC (inC (fstC (sndC (sndC (inC (inC (sndC (fstC (sndC (sndC (sndC (sndC (sndC b26)))))))))))))))))))))))))))), .inLoop (inC (inC (sndC (sndC (inC (fstC (sndC (sndC (inC (inC (sndC (sndC (inC (fstC (sndC (sndC (inC (inC (sndC (fstC (sndC (sndC (sndC (sndC (sndC b26))))))))))))))))))))))))), .inBlock 8, .inBlock 7, .code (sndC (sndC (sndC (inC (inC (sndC (sndC (inC (fstC (sndC (sndC (inC (inC (sndC (fstC (sndC (sndC (sndC (sndC (sndC b26)))))))))))))))))))), .inLoop (inC (inC (sndC (sndC (inC (fstC (sndC (sndC (inC (inC (sndC (fstC (sndC (sndC (sndC (sndC (sndC b26))))))))))))))))), .inBlock 6, .inBlock 5, .code (sndC (sndC (sndC (inC (inC (sndC (fstC (sndC (sndC (sndC (sndC (sndC b26)))))))))))), .inLoop (inC (inC (sndC (fstC (sndC (sndC (sndC (sndC (sndC b26))))))))), .inBlock 4, .code (sndC (sndC (sndC (sndC (sndC (sndC b26))))))]
def a26 (f:Func):List (AV Ty):=[.agg [.v (.string f.name), .v (.bool f.out), .sl false (3:Nat) f.params, .v (.int .i64 f.result), .sl false (44:Nat) f.blocks]]
noncomputable def R26 (f:Func):St Ty→EvR:=resT tb C26 Try.f26.results.toList .keep (a26 f)
def s26_l0 (f:Func) (v3:List (Value×Int)) (v4:Int) (v23:Int) (v24:Int) (h0:ByteArray) (h0_1:Bool) (h0_2:List Int) (h0_3:Int) (h0_4:List Block) (h1:ByteArray) (h1_1:Bool) (h1_2:List Int) (h1_3:Int) (h1_4:List Block):St Ty:=St.mk [(1, .ptr (0) [] (0) (0)),(2, .ptr (1) [] (0) (0)),(3,AV.mp (some IntKind.i64) IntKind.i64 v3),(4, .v (.int .i64 v4)),(23, .v (.int .i64 v23)),(24, .v (.int .i64 v24))] [some (Root.mk (1033) true [FFunc.mk (Func.mk h0 h0_1 h0_2 h0_3 h0_4) true true]),some (Root.mk (33) true [Func.mk h1 h1_1 h1_2 h1_3 h1_4])]
def s26_l2 (f:Func) (v3:List (Value×Int)) (v4:Int) (v5:Int) (v23:Int) (v24:Int) (v33:Int) (v34:Int) (h0:ByteArray) (h0_1:Bool) (h0_2:List Int) (h0_3:Int) (h0_4:List Block) (h1:ByteArray) (h1_1:Bool) (h1_2:List Int) (h1_3:Int) (h1_4:List Block):St Ty:=St.mk [(1, .ptr (0) [] (0) (0)),(2, .ptr (1) [] (0) (0)),(3,AV.mp (some IntKind.i64) IntKind.i64 v3),(4, .v (.int .i64 v4)),(5, .v (.int .i64 v5)),(23, .v (.int .i64 v23)),(24, .v (.int .i64 v24)),(33, .v (.int .i64 v33)),(34, .v (.int .i64 v34))] [some (Root.mk (1033) true [FFunc.mk (Func.mk h0 h0_1 h0_2 h0_3 h0_4) true true]),some (Root.mk (33) true [Func.mk h1 h1_1 h1_2 h1_3 h1_4])]
def s26_j0 (f:Func) (v3:List (Value×Int)) (h0:ByteArray) (h0_1:Bool) (h0_2:List Int) (h0_3:Int) (h0_4:List Block) (h1:ByteArray) (h1_1:Bool) (h1_2:List Int) (h1_3:Int) (h1_4:List Block):St Ty:=St.mk [(1, .ptr (0) [] (0) (0)),(2, .ptr (1) [] (0) (0)),(3,AV.mp (some IntKind.i64) IntKind.i64 v3)] [some (Root.mk (1033) true [FFunc.mk (Func.mk h0 h0_1 h0_2 h0_3 h0_4) true true]),some (Root.mk (33) true [Func.mk h1 h1_1 h1_2 h1_3 h1_4])]
def s26_j3 (f:Func) (v3:List (Value×Int)) (v4:Int) (v5:Int) (v23:Int) (v24:Int) (v33:Int) (v34:Int) (h0:ByteArray) (h0_1:Bool) (h0_2:List Int) (h0_3:Int) (h0_4:List Block) (h1:ByteArray) (h1_1:Bool) (h1_2:List Int) (h1_3:Int) (h1_4:List Block):St Ty:=St.mk [(1, .ptr (0) [] (0) (0)),(2, .ptr (1) [] (0) (0)),(3,AV.mp (some IntKind.i64) IntKind.i64 v3),(4, .v (.int .i64 v4)),(5, .v (.int .i64 v5)),(23, .v (.int .i64 v23)),(24, .v (.int .i64 v24)),(33, .v (.int .i64 v33)),(34, .v (.int .i64 v34))] [some (Root.mk (1033) true [FFunc.mk (Func.mk h0 h0_1 h0_2 h0_3 h0_4) true true]),some (Root.mk (33) true [Func.mk h1 h1_1 h1_2 h1_3 h1_4])]
def s26_j2 (f:Func) (v3:List (Value×Int)) (v4:Int) (v23:Int) (v24:Int) (h0:ByteArray) (h0_1:Bool) (h0_2:List Int) (h0_3:Int) (h0_4:List Block) (h1:ByteArray) (h1_1:Bool) (h1_2:List Int) (h1_3:Int) (h1_4:List Block):St Ty:=St.mk [(1, .ptr (0) [] (0) (0)),(2, .ptr (1) [] (0) (0)),(3,AV.mp (some IntKind.i64) IntKind.i64 v3),(4, .v (.int .i64 v4)),(23, .v (.int .i64 v23)),(24, .v (.int .i64 v24))] [some (Root.mk (1033) true [FFunc.mk (Func.mk h0 h0_1 h0_2 h0_3 h0_4) true true]),some (Root.mk (33) true [Func.mk h1 h1_1 h1_2 h1_3 h1_4])]
def s26_l4 (f:Func) (v3:List (Value×Int)) (v100:Int) (v101:Int) (h0:ByteArray) (h0_1:Bool) (h0_2:List Int) (h0_3:Int) (h0_4:List Block) (h1:ByteArray) (h1_1:Bool) (h1_2:List Int) (h1_3:Int) (h1_4:List Block):St Ty:=St.mk [(1, .ptr (0) [] (0) (0)),(2, .ptr (1) [] (0) (0)),(3,AV.mp (some IntKind.i64) IntKind.i64 v3),(100, .v (.int .i64 v100)),(101, .v (.int .i64 v101))] [some (Root.mk (1033) true [FFunc.mk (Func.mk h0 h0_1 h0_2 h0_3 h0_4) true true]),some (Root.mk (33) true [Func.mk h1 h1_1 h1_2 h1_3 h1_4])]
def s26_j1 (f:Func) (v3:List (Value×Int)) (v4:Int) (v23:Int) (v24:Int) (h0:ByteArray) (h0_1:Bool) (h0_2:List Int) (h0_3:Int) (h0_4:List Block) (h1:ByteArray) (h1_1:Bool) (h1_2:List Int) (h1_3:Int) (h1_4:List Block):St Ty:=St.mk [(1, .ptr (0) [] (0) (0)),(2, .ptr (1) [] (0) (0)),(3,AV.mp (some IntKind.i64) IntKind.i64 v3),(4, .v (.int .i64 v4)),(23, .v (.int .i64 v23)),(24, .v (.int .i64 v24))] [some (Root.mk (1033) true [FFunc.mk (Func.mk h0 h0_1 h0_2 h0_3 h0_4) true true]),some (Root.mk (33) true [Func.mk h1 h1_1 h1_2 h1_3 h1_4])]
def s26_l6 (f:Func) (v3:List (Value×Int)) (v100:Int) (v101:Int) (v109:Nat) (v110:Int) (v111:Int) (h0:ByteArray) (h0_1:Bool) (h0_2:List Int) (h0_3:Int) (h0_4:List Block) (h1:ByteArray) (h1_1:Bool) (h1_2:List Int) (h1_3:Int) (h1_4:List Block):St Ty:=St.mk [(1, .ptr (0) [] (0) (0)),(2, .ptr (1) [] (0) (0)),(3,AV.mp (some IntKind.i64) IntKind.i64 v3),(100, .v (.int .i64 v100)),(101, .v (.int .i64 v101)),(109, .ref (0) [(0,4),(v109,0)] none false),(110, .v (.int .i64 v110)),(111, .v (.int .i64 v111))] [some (Root.mk (1033) true [FFunc.mk (Func.mk h0 h0_1 h0_2 h0_3 h0_4) true true]),some (Root.mk (33) true [Func.mk h1 h1_1 h1_2 h1_3 h1_4])]
def s26_j4 (f:Func) (h0:ByteArray) (h0_1:Bool) (h0_2:List Int) (h0_3:Int) (h0_4:List Block) (h1:ByteArray) (h1_1:Bool) (h1_2:List Int) (h1_3:Int) (h1_4:List Block):St Ty:=St.mk [(1, .ptr (0) [] (0) (0)),(2, .ptr (1) [] (0) (0))] [some (Root.mk (1033) true [FFunc.mk (Func.mk h0 h0_1 h0_2 h0_3 h0_4) true true]),some (Root.mk (33) true [Func.mk h1 h1_1 h1_2 h1_3 h1_4])]
def s26_l8 (f:Func) (v3:List (Value×Int)) (v12:Int) (v12_1:Int) (v12_2:Int) (v12_3:Int) (v12_4:Int) (v12_5:Nat) (v12_6:Nat) (v12_7:Bool) (v12_8:Nat) (v12_9:Nat) (v12_10:Bool) (v100:Int) (v101:Int) (v109:Nat) (v110:Int) (v111:Int) (v116:Nat) (v116_1:Nat) (v117:Int) (v118:Int) (h0:ByteArray) (h0_1:Bool) (h0_2:List Int) (h0_3:Int) (h0_4:List Block) (h1:ByteArray) (h1_1:Bool) (h1_2:List Int) (h1_3:Int) (h1_4:List Block):St Ty:=St.mk [(1, .ptr (0) [] (0) (0)),(2, .ptr (1) [] (0) (0)),(3,AV.mp (some IntKind.i64) IntKind.i64 v3),(12,AV.vb [.v (.int .i64 v12), .v (.int .i64 v12_1), .v (.int .i64 v12_2), .v (.int .i64 v12_3), .v (.int .i64 v12_4), .ref (0) [(0,4),(v12_5,0),(v12_6,5)] none v12_7, .ref (0) [(0,4),(v12_8,0),(v12_9,6)] none v12_10]),(100, .v (.int .i64 v100)),(101, .v (.int .i64 v101)),(109, .ref (0) [(0,4),(v109,0)] none false),(110, .v (.int .i64 v110)),(111, .v (.int .i64 v111)),(116, .ref (0) [(0,4),(v116,0),(v116_1,5)] none false),(117, .v (.int .i64 v117)),(118, .v (.int .i64 v118))] [some (Root.mk (1033) true [FFunc.mk (Func.mk h0 h0_1 h0_2 h0_3 h0_4) true true]),some (Root.mk (33) true [Func.mk h1 h1_1 h1_2 h1_3 h1_4])]
def s26_j6 (f:Func) (v3:List (Value×Int)) (v100:Int) (v101:Int) (h0:ByteArray) (h0_1:Bool) (h0_2:List Int) (h0_3:Int) (h0_4:List Block) (h1:ByteArray) (h1_1:Bool) (h1_2:List Int) (h1_3:Int) (h1_4:List Block):St Ty:=St.mk [(1, .ptr (0) [] (0) (0)),(2, .ptr (1) [] (0) (0)),(3,AV.mp (some IntKind.i64) IntKind.i64 v3),(100, .v (.int .i64 v100)),(101, .v (.int .i64 v101))] [some (Root.mk (1033) true [FFunc.mk (Func.mk h0 h0_1 h0_2 h0_3 h0_4) true true]),some (Root.mk (33) true [Func.mk h1 h1_1 h1_2 h1_3 h1_4])]
def s26_j9 (f:Func) (v3:List (Value×Int)) (v12:Int) (v12_1:Int) (v12_2:Int) (v12_3:Int) (v12_4:Int) (v12_5:Nat) (v12_6:Nat) (v12_7:Bool) (v12_8:Nat) (v12_9:Nat) (v12_10:Bool) (v100:Int) (v101:Int) (v109:Nat) (v110:Int) (v111:Int) (v116:Nat) (v116_1:Nat) (v117:Int) (v118:Int) (h0:ByteArray) (h0_1:Bool) (h0_2:List Int) (h0_3:Int) (h0_4:List Block) (h1:ByteArray) (h1_1:Bool) (h1_2:List Int) (h1_3:Int) (h1_4:List Block):St Ty:=St.mk [(1, .ptr (0) [] (0) (0)),(2, .ptr (1) [] (0) (0)),(3,AV.mp (some IntKind.i64) IntKind.i64 v3),(12,AV.vb [.v (.int .i64 v12), .v (.int .i64 v12_1), .v (.int .i64 v12_2), .v (.int .i64 v12_3), .v (.int .i64 v12_4), .ref (0) [(0,4),(v12_5,0),(v12_6,5)] none v12_7, .ref (0) [(0,4),(v12_8,0),(v12_9,6)] none v12_10]),(100, .v (.int .i64 v100)),(101, .v (.int .i64 v101)),(109, .ref (0) [(0,4),(v109,0)] none false),(110, .v (.int .i64 v110)),(111, .v (.int .i64 v111)),(116, .ref (0) [(0,4),(v116,0),(v116_1,5)] none false),(117, .v (.int .i64 v117)),(118, .v (.int .i64 v118))] [some (Root.mk (1033) true [FFunc.mk (Func.mk h0 h0_1 h0_2 h0_3 h0_4) true true]),some (Root.mk (33) true [Func.mk h1 h1_1 h1_2 h1_3 h1_4])]
def s26_j8 (f:Func) (v3:List (Value×Int)) (v100:Int) (v101:Int) (v109:Nat) (v110:Int) (v111:Int) (h0:ByteArray) (h0_1:Bool) (h0_2:List Int) (h0_3:Int) (h0_4:List Block) (h1:ByteArray) (h1_1:Bool) (h1_2:List Int) (h1_3:Int) (h1_4:List Block):St Ty:=St.mk [(1, .ptr (0) [] (0) (0)),(2, .ptr (1) [] (0) (0)),(3,AV.mp (some IntKind.i64) IntKind.i64 v3),(100, .v (.int .i64 v100)),(101, .v (.int .i64 v101)),(109, .ref (0) [(0,4),(v109,0)] none false),(110, .v (.int .i64 v110)),(111, .v (.int .i64 v111))] [some (Root.mk (1033) true [FFunc.mk (Func.mk h0 h0_1 h0_2 h0_3 h0_4) true true]),some (Root.mk (33) true [Func.mk h1 h1_1 h1_2 h1_3 h1_4])]
def s26_j5 (f:Func) (v3:List (Value×Int)) (v100:Int) (v101:Int) (h0:ByteArray) (h0_1:Bool) (h0_2:List Int) (h0_3:Int) (h0_4:List Block) (h1:ByteArray) (h1_1:Bool) (h1_2:List Int) (h1_3:Int) (h1_4:List Block):St Ty:=St.mk [(1, .ptr (0) [] (0) (0)),(2, .ptr (1) [] (0) (0)),(3,AV.mp (some IntKind.i64) IntKind.i64 v3),(100, .v (.int .i64 v100)),(101, .v (.int .i64 v101))] [some (Root.mk (1033) true [FFunc.mk (Func.mk h0 h0_1 h0_2 h0_3 h0_4) true true]),some (Root.mk (33) true [Func.mk h1 h1_1 h1_2 h1_3 h1_4])]
def s26_j7 (f:Func) (v3:List (Value×Int)) (v100:Int) (v101:Int) (v109:Nat) (v110:Int) (v111:Int) (h0:ByteArray) (h0_1:Bool) (h0_2:List Int) (h0_3:Int) (h0_4:List Block) (h1:ByteArray) (h1_1:Bool) (h1_2:List Int) (h1_3:Int) (h1_4:List Block):St Ty:=St.mk [(1, .ptr (0) [] (0) (0)),(2, .ptr (1) [] (0) (0)),(3,AV.mp (some IntKind.i64) IntKind.i64 v3),(100, .v (.int .i64 v100)),(101, .v (.int .i64 v101)),(109, .ref (0) [(0,4),(v109,0)] none false),(110, .v (.int .i64 v110)),(111, .v (.int .i64 v111))] [some (Root.mk (1033) true [FFunc.mk (Func.mk h0 h0_1 h0_2 h0_3 h0_4) true true]),some (Root.mk (33) true [Func.mk h1 h1_1 h1_2 h1_3 h1_4])]
theorem e26 (J f):run tb C26 U26 J (R26 f) 4096 [.code b26] ⟨slotsA (a26 f) 0 0,heapA (a26 f)⟩=
 if okF (Func.mk f.name f.out f.params f.result f.blocks) then
 J k26_l0 (s26_l0 f ([]) ((↑f.params.length:Int)) ((↑f.blocks.length:Int)) 0 f.name f.out f.params f.result f.blocks ByteArray.empty false ([]) 0 ([]))
 else none:=by kernel_rfl
theorem e26_l0 (J f v3 v4 v23 v24 h0 h0_1 h0_2 h0_3 h0_4 h1 h1_1 h1_2 h1_3 h1_4):run tb C26 U26 J (R26 f) 4096 k26_l0 (s26_l0 f v3 v4 v23 v24 h0 h0_1 h0_2 h0_3 h0_4 h1 h1_1 h1_2 h1_3 h1_4)=
 if decide (v24<v23)=true then
 if 0≤v24 then
 if v24<(↑h0_4.length:Int) then
 J k26_l2 (s26_l2 f v3 v4 v24 v23 v24 ((↑(h0_4.getD (0+v24.toNat) (Block.mk [])).ins.length:Int)) 0 h0 h0_1 h0_2 h0_3 h0_4 h1 h1_1 h1_2 h1_3 h1_4)
 else none
 else none
 else
 J k26_j0 (s26_j0 f v3 h0 h0_1 h0_2 h0_3 h0_4 h1 h1_1 h1_2 h1_3 h1_4):=by kernel_rfl
theorem e26_l2 (J f v3 v4 v5 v23 v24 v33 v34 h0 h0_1 h0_2 h0_3 h0_4 h1 h1_1 h1_2 h1_3 h1_4):run tb C26 U26 J (R26 f) 4096 k26_l2 (s26_l2 f v3 v4 v5 v23 v24 v33 v34 h0 h0_1 h0_2 h0_3 h0_4 h1 h1_1 h1_2 h1_3 h1_4)=
 if decide (v34<v33)=true then
 if 0≤v5 then
 if v5<(↑h0_4.length:Int) then
 if 0≤v34 then
 if v34<(↑(h0_4.getD (0+v5.toNat) (Block.mk [])).ins.length:Int) then
 if ((rdI h0_4 (0+v5.toNat) (0+v34.toNat)).op == 26)=true then
 if ((↑(rdI h0_4 (0+v5.toNat) (0+v34.toNat)).args.length:Int) == (↑(rdI h0_4 (0+v5.toNat) (0+v34.toNat)).into.length:Int))=true then
 if (rdI h0_4 (0+v5.toNat) (0+v34.toNat)).args.length=(rdI h0_4 (0+v5.toNat) (0+v34.toNat)).into.length∧(rdI h0_4 (0+v5.toNat) (0+v34.toNat)).into.length≤1000 then
 if ((rdI (wrI h0_4 (0+v5.toNat) (0+v34.toNat) (Ins.mk (rdI h0_4 (0+v5.toNat) (0+v34.toNat)).op (rdI h0_4 (0+v5.toNat) (0+v34.toNat)).type_ (rdI h0_4 (0+v5.toNat) (0+v34.toNat)).to_ (rdI h0_4 (0+v5.toNat) (0+v34.toNat)).sym_ (rdI h0_4 (0+v5.toNat) (0+v34.toNat)).num (riseF (rdI h0_4 (0+v5.toNat) (0+v34.toNat)).args (rdI h0_4 (0+v5.toNat) (0+v34.toNat)).into).fst (riseF (rdI h0_4 (0+v5.toNat) (0+v34.toNat)).args (rdI h0_4 (0+v5.toNat) (0+v34.toNat)).into).snd)) (0+v5.toNat) (0+v34.toNat)).type_ == 0)=true then
 J k26_j3 (s26_j3 f v3 v4 v5 v23 v24 v33 v34 h0 h0_1 h0_2 h0_3 (wrI (wrI h0_4 (0+v5.toNat) (0+v34.toNat) (Ins.mk (rdI h0_4 (0+v5.toNat) (0+v34.toNat)).op (rdI h0_4 (0+v5.toNat) (0+v34.toNat)).type_ (rdI h0_4 (0+v5.toNat) (0+v34.toNat)).to_ (rdI h0_4 (0+v5.toNat) (0+v34.toNat)).sym_ (rdI h0_4 (0+v5.toNat) (0+v34.toNat)).num (riseF (rdI h0_4 (0+v5.toNat) (0+v34.toNat)).args (rdI h0_4 (0+v5.toNat) (0+v34.toNat)).into).fst (riseF (rdI h0_4 (0+v5.toNat) (0+v34.toNat)).args (rdI h0_4 (0+v5.toNat) (0+v34.toNat)).into).snd)) (0+v5.toNat) (0+v34.toNat) (Ins.mk (rdI (wrI h0_4 (0+v5.toNat) (0+v34.toNat) (Ins.mk (rdI h0_4 (0+v5.toNat) (0+v34.toNat)).op (rdI h0_4 (0+v5.toNat) (0+v34.toNat)).type_ (rdI h0_4 (0+v5.toNat) (0+v34.toNat)).to_ (rdI h0_4 (0+v5.toNat) (0+v34.toNat)).sym_ (rdI h0_4 (0+v5.toNat) (0+v34.toNat)).num (riseF (rdI h0_4 (0+v5.toNat) (0+v34.toNat)).args (rdI h0_4 (0+v5.toNat) (0+v34.toNat)).into).fst (riseF (rdI h0_4 (0+v5.toNat) (0+v34.toNat)).args (rdI h0_4 (0+v5.toNat) (0+v34.toNat)).into).snd)) (0+v5.toNat) (0+v34.toNat)).op (rdI (wrI h0_4 (0+v5.toNat) (0+v34.toNat) (Ins.mk (rdI h0_4 (0+v5.toNat) (0+v34.toNat)).op (rdI h0_4 (0+v5.toNat) (0+v34.toNat)).type_ (rdI h0_4 (0+v5.toNat) (0+v34.toNat)).to_ (rdI h0_4 (0+v5.toNat) (0+v34.toNat)).sym_ (rdI h0_4 (0+v5.toNat) (0+v34.toNat)).num (riseF (rdI h0_4 (0+v5.toNat) (0+v34.toNat)).args (rdI h0_4 (0+v5.toNat) (0+v34.toNat)).into).fst (riseF (rdI h0_4 (0+v5.toNat) (0+v34.toNat)).args (rdI h0_4 (0+v5.toNat) (0+v34.toNat)).into).snd)) (0+v5.toNat) (0+v34.toNat)).type_ 0 (rdI (wrI h0_4 (0+v5.toNat) (0+v34.toNat) (Ins.mk (rdI h0_4 (0+v5.toNat) (0+v34.toNat)).op (rdI h0_4 (0+v5.toNat) (0+v34.toNat)).type_ (rdI h0_4 (0+v5.toNat) (0+v34.toNat)).to_ (rdI h0_4 (0+v5.toNat) (0+v34.toNat)).sym_ (rdI h0_4 (0+v5.toNat) (0+v34.toNat)).num (riseF (rdI h0_4 (0+v5.toNat) (0+v34.toNat)).args (rdI h0_4 (0+v5.toNat) (0+v34.toNat)).into).fst (riseF (rdI h0_4 (0+v5.toNat) (0+v34.toNat)).args (rdI h0_4 (0+v5.toNat) (0+v34.toNat)).into).snd)) (0+v5.toNat) (0+v34.toNat)).sym_ (rdI (wrI h0_4 (0+v5.toNat) (0+v34.toNat) (Ins.mk (rdI h0_4 (0+v5.toNat) (0+v34.toNat)).op (rdI h0_4 (0+v5.toNat) (0+v34.toNat)).type_ (rdI h0_4 (0+v5.toNat) (0+v34.toNat)).to_ (rdI h0_4 (0+v5.toNat) (0+v34.toNat)).sym_ (rdI h0_4 (0+v5.toNat) (0+v34.toNat)).num (riseF (rdI h0_4 (0+v5.toNat) (0+v34.toNat)).args (rdI h0_4 (0+v5.toNat) (0+v34.toNat)).into).fst (riseF (rdI h0_4 (0+v5.toNat) (0+v34.toNat)).args (rdI h0_4 (0+v5.toNat) (0+v34.toNat)).into).snd)) (0+v5.toNat) (0+v34.toNat)).num (rdI (wrI h0_4 (0+v5.toNat) (0+v34.toNat) (Ins.mk (rdI h0_4 (0+v5.toNat) (0+v34.toNat)).op (rdI h0_4 (0+v5.toNat) (0+v34.toNat)).type_ (rdI h0_4 (0+v5.toNat) (0+v34.toNat)).to_ (rdI h0_4 (0+v5.toNat) (0+v34.toNat)).sym_ (rdI h0_4 (0+v5.toNat) (0+v34.toNat)).num (riseF (rdI h0_4 (0+v5.toNat) (0+v34.toNat)).args (rdI h0_4 (0+v5.toNat) (0+v34.toNat)).into).fst (riseF (rdI h0_4 (0+v5.toNat) (0+v34.toNat)).args (rdI h0_4 (0+v5.toNat) (0+v34.toNat)).into).snd)) (0+v5.toNat) (0+v34.toNat)).args (rdI (wrI h0_4 (0+v5.toNat) (0+v34.toNat) (Ins.mk (rdI h0_4 (0+v5.toNat) (0+v34.toNat)).op (rdI h0_4 (0+v5.toNat) (0+v34.toNat)).type_ (rdI h0_4 (0+v5.toNat) (0+v34.toNat)).to_ (rdI h0_4 (0+v5.toNat) (0+v34.toNat)).sym_ (rdI h0_4 (0+v5.toNat) (0+v34.toNat)).num (riseF (rdI h0_4 (0+v5.toNat) (0+v34.toNat)).args (rdI h0_4 (0+v5.toNat) (0+v34.toNat)).into).fst (riseF (rdI h0_4 (0+v5.toNat) (0+v34.toNat)).args (rdI h0_4 (0+v5.toNat) (0+v34.toNat)).into).snd)) (0+v5.toNat) (0+v34.toNat)).into)) h1 h1_1 h1_2 h1_3 h1_4)
 else
 if (!match mget v3 (.int IntKind.i64 (rdI (wrI h0_4 (0+v5.toNat) (0+v34.toNat) (Ins.mk (rdI h0_4 (0+v5.toNat) (0+v34.toNat)).op (rdI h0_4 (0+v5.toNat) (0+v34.toNat)).type_ (rdI h0_4 (0+v5.toNat) (0+v34.toNat)).to_ (rdI h0_4 (0+v5.toNat) (0+v34.toNat)).sym_ (rdI h0_4 (0+v5.toNat) (0+v34.toNat)).num (riseF (rdI h0_4 (0+v5.toNat) (0+v34.toNat)).args (rdI h0_4 (0+v5.toNat) (0+v34.toNat)).into).fst (riseF (rdI h0_4 (0+v5.toNat) (0+v34.toNat)).args (rdI h0_4 (0+v5.toNat) (0+v34.toNat)).into).snd)) (0+v5.toNat) (0+v34.toNat)).to_) with|some val=>true|none=>false)=true then
 J k26_j3 (s26_j3 f (mput v3 (.int IntKind.i64 (rdI (wrI h0_4 (0+v5.toNat) (0+v34.toNat) (Ins.mk (rdI h0_4 (0+v5.toNat) (0+v34.toNat)).op (rdI h0_4 (0+v5.toNat) (0+v34.toNat)).type_ (rdI h0_4 (0+v5.toNat) (0+v34.toNat)).to_ (rdI h0_4 (0+v5.toNat) (0+v34.toNat)).sym_ (rdI h0_4 (0+v5.toNat) (0+v34.toNat)).num (riseF (rdI h0_4 (0+v5.toNat) (0+v34.toNat)).args (rdI h0_4 (0+v5.toNat) (0+v34.toNat)).into).fst (riseF (rdI h0_4 (0+v5.toNat) (0+v34.toNat)).args (rdI h0_4 (0+v5.toNat) (0+v34.toNat)).into).snd)) (0+v5.toNat) (0+v34.toNat)).to_) (IntKind.i64.wrap (v4+1))) (IntKind.i64.wrap (v4+1)) v5 v23 v24 v33 v34 h0 h0_1 h0_2 h0_3 (wrI (wrI h0_4 (0+v5.toNat) (0+v34.toNat) (Ins.mk (rdI h0_4 (0+v5.toNat) (0+v34.toNat)).op (rdI h0_4 (0+v5.toNat) (0+v34.toNat)).type_ (rdI h0_4 (0+v5.toNat) (0+v34.toNat)).to_ (rdI h0_4 (0+v5.toNat) (0+v34.toNat)).sym_ (rdI h0_4 (0+v5.toNat) (0+v34.toNat)).num (riseF (rdI h0_4 (0+v5.toNat) (0+v34.toNat)).args (rdI h0_4 (0+v5.toNat) (0+v34.toNat)).into).fst (riseF (rdI h0_4 (0+v5.toNat) (0+v34.toNat)).args (rdI h0_4 (0+v5.toNat) (0+v34.toNat)).into).snd)) (0+v5.toNat) (0+v34.toNat) (Ins.mk (rdI (wrI h0_4 (0+v5.toNat) (0+v34.toNat) (Ins.mk (rdI h0_4 (0+v5.toNat) (0+v34.toNat)).op (rdI h0_4 (0+v5.toNat) (0+v34.toNat)).type_ (rdI h0_4 (0+v5.toNat) (0+v34.toNat)).to_ (rdI h0_4 (0+v5.toNat) (0+v34.toNat)).sym_ (rdI h0_4 (0+v5.toNat) (0+v34.toNat)).num (riseF (rdI h0_4 (0+v5.toNat) (0+v34.toNat)).args (rdI h0_4 (0+v5.toNat) (0+v34.toNat)).into).fst (riseF (rdI h0_4 (0+v5.toNat) (0+v34.toNat)).args (rdI h0_4 (0+v5.toNat) (0+v34.toNat)).into).snd)) (0+v5.toNat) (0+v34.toNat)).op (rdI (wrI h0_4 (0+v5.toNat) (0+v34.toNat) (Ins.mk (rdI h0_4 (0+v5.toNat) (0+v34.toNat)).op (rdI h0_4 (0+v5.toNat) (0+v34.toNat)).type_ (rdI h0_4 (0+v5.toNat) (0+v34.toNat)).to_ (rdI h0_4 (0+v5.toNat) (0+v34.toNat)).sym_ (rdI h0_4 (0+v5.toNat) (0+v34.toNat)).num (riseF (rdI h0_4 (0+v5.toNat) (0+v34.toNat)).args (rdI h0_4 (0+v5.toNat) (0+v34.toNat)).into).fst (riseF (rdI h0_4 (0+v5.toNat) (0+v34.toNat)).args (rdI h0_4 (0+v5.toNat) (0+v34.toNat)).into).snd)) (0+v5.toNat) (0+v34.toNat)).type_ (IntKind.i64.wrap (v4+1)) (rdI (wrI h0_4 (0+v5.toNat) (0+v34.toNat) (Ins.mk (rdI h0_4 (0+v5.toNat) (0+v34.toNat)).op (rdI h0_4 (0+v5.toNat) (0+v34.toNat)).type_ (rdI h0_4 (0+v5.toNat) (0+v34.toNat)).to_ (rdI h0_4 (0+v5.toNat) (0+v34.toNat)).sym_ (rdI h0_4 (0+v5.toNat) (0+v34.toNat)).num (riseF (rdI h0_4 (0+v5.toNat) (0+v34.toNat)).args (rdI h0_4 (0+v5.toNat) (0+v34.toNat)).into).fst (riseF (rdI h0_4 (0+v5.toNat) (0+v34.toNat)).args (rdI h0_4 (0+v5.toNat) (0+v34.toNat)).into).snd)) (0+v5.toNat) (0+v34.toNat)).sym_ (rdI (wrI h0_4 (0+v5.toNat) (0+v34.toNat) (Ins.mk (rdI h0_4 (0+v5.toNat) (0+v34.toNat)).op (rdI h0_4 (0+v5.toNat) (0+v34.toNat)).type_ (rdI h0_4 (0+v5.toNat) (0+v34.toNat)).to_ (rdI h0_4 (0+v5.toNat) (0+v34.toNat)).sym_ (rdI h0_4 (0+v5.toNat) (0+v34.toNat)).num (riseF (rdI h0_4 (0+v5.toNat) (0+v34.toNat)).args (rdI h0_4 (0+v5.toNat) (0+v34.toNat)).into).fst (riseF (rdI h0_4 (0+v5.toNat) (0+v34.toNat)).args (rdI h0_4 (0+v5.toNat) (0+v34.toNat)).into).snd)) (0+v5.toNat) (0+v34.toNat)).num (rdI (wrI h0_4 (0+v5.toNat) (0+v34.toNat) (Ins.mk (rdI h0_4 (0+v5.toNat) (0+v34.toNat)).op (rdI h0_4 (0+v5.toNat) (0+v34.toNat)).type_ (rdI h0_4 (0+v5.toNat) (0+v34.toNat)).to_ (rdI h0_4 (0+v5.toNat) (0+v34.toNat)).sym_ (rdI h0_4 (0+v5.toNat) (0+v34.toNat)).num (riseF (rdI h0_4 (0+v5.toNat) (0+v34.toNat)).args (rdI h0_4 (0+v5.toNat) (0+v34.toNat)).into).fst (riseF (rdI h0_4 (0+v5.toNat) (0+v34.toNat)).args (rdI h0_4 (0+v5.toNat) (0+v34.toNat)).into).snd)) (0+v5.toNat) (0+v34.toNat)).args (rdI (wrI h0_4 (0+v5.toNat) (0+v34.toNat) (Ins.mk (rdI h0_4 (0+v5.toNat) (0+v34.toNat)).op (rdI h0_4 (0+v5.toNat) (0+v34.toNat)).type_ (rdI h0_4 (0+v5.toNat) (0+v34.toNat)).to_ (rdI h0_4 (0+v5.toNat) (0+v34.toNat)).sym_ (rdI h0_4 (0+v5.toNat) (0+v34.toNat)).num (riseF (rdI h0_4 (0+v5.toNat) (0+v34.toNat)).args (rdI h0_4 (0+v5.toNat) (0+v34.toNat)).into).fst (riseF (rdI h0_4 (0+v5.toNat) (0+v34.toNat)).args (rdI h0_4 (0+v5.toNat) (0+v34.toNat)).into).snd)) (0+v5.toNat) (0+v34.toNat)).into)) h1 h1_1 h1_2 h1_3 h1_4)
 else
 J k26_j3 (s26_j3 f v3 (IntKind.i64.wrap (v4+1)) v5 v23 v24 v33 v34 h0 h0_1 h0_2 h0_3 (wrI (wrI h0_4 (0+v5.toNat) (0+v34.toNat) (Ins.mk (rdI h0_4 (0+v5.toNat) (0+v34.toNat)).op (rdI h0_4 (0+v5.toNat) (0+v34.toNat)).type_ (rdI h0_4 (0+v5.toNat) (0+v34.toNat)).to_ (rdI h0_4 (0+v5.toNat) (0+v34.toNat)).sym_ (rdI h0_4 (0+v5.toNat) (0+v34.toNat)).num (riseF (rdI h0_4 (0+v5.toNat) (0+v34.toNat)).args (rdI h0_4 (0+v5.toNat) (0+v34.toNat)).into).fst (riseF (rdI h0_4 (0+v5.toNat) (0+v34.toNat)).args (rdI h0_4 (0+v5.toNat) (0+v34.toNat)).into).snd)) (0+v5.toNat) (0+v34.toNat) (Ins.mk (rdI (wrI h0_4 (0+v5.toNat) (0+v34.toNat) (Ins.mk (rdI h0_4 (0+v5.toNat) (0+v34.toNat)).op (rdI h0_4 (0+v5.toNat) (0+v34.toNat)).type_ (rdI h0_4 (0+v5.toNat) (0+v34.toNat)).to_ (rdI h0_4 (0+v5.toNat) (0+v34.toNat)).sym_ (rdI h0_4 (0+v5.toNat) (0+v34.toNat)).num (riseF (rdI h0_4 (0+v5.toNat) (0+v34.toNat)).args (rdI h0_4 (0+v5.toNat) (0+v34.toNat)).into).fst (riseF (rdI h0_4 (0+v5.toNat) (0+v34.toNat)).args (rdI h0_4 (0+v5.toNat) (0+v34.toNat)).into).snd)) (0+v5.toNat) (0+v34.toNat)).op (rdI (wrI h0_4 (0+v5.toNat) (0+v34.toNat) (Ins.mk (rdI h0_4 (0+v5.toNat) (0+v34.toNat)).op (rdI h0_4 (0+v5.toNat) (0+v34.toNat)).type_ (rdI h0_4 (0+v5.toNat) (0+v34.toNat)).to_ (rdI h0_4 (0+v5.toNat) (0+v34.toNat)).sym_ (rdI h0_4 (0+v5.toNat) (0+v34.toNat)).num (riseF (rdI h0_4 (0+v5.toNat) (0+v34.toNat)).args (rdI h0_4 (0+v5.toNat) (0+v34.toNat)).into).fst (riseF (rdI h0_4 (0+v5.toNat) (0+v34.toNat)).args (rdI h0_4 (0+v5.toNat) (0+v34.toNat)).into).snd)) (0+v5.toNat) (0+v34.toNat)).type_ (IntKind.i64.wrap (v4+1)) (rdI (wrI h0_4 (0+v5.toNat) (0+v34.toNat) (Ins.mk (rdI h0_4 (0+v5.toNat) (0+v34.toNat)).op (rdI h0_4 (0+v5.toNat) (0+v34.toNat)).type_ (rdI h0_4 (0+v5.toNat) (0+v34.toNat)).to_ (rdI h0_4 (0+v5.toNat) (0+v34.toNat)).sym_ (rdI h0_4 (0+v5.toNat) (0+v34.toNat)).num (riseF (rdI h0_4 (0+v5.toNat) (0+v34.toNat)).args (rdI h0_4 (0+v5.toNat) (0+v34.toNat)).into).fst (riseF (rdI h0_4 (0+v5.toNat) (0+v34.toNat)).args (rdI h0_4 (0+v5.toNat) (0+v34.toNat)).into).snd)) (0+v5.toNat) (0+v34.toNat)).sym_ (rdI (wrI h0_4 (0+v5.toNat) (0+v34.toNat) (Ins.mk (rdI h0_4 (0+v5.toNat) (0+v34.toNat)).op (rdI h0_4 (0+v5.toNat) (0+v34.toNat)).type_ (rdI h0_4 (0+v5.toNat) (0+v34.toNat)).to_ (rdI h0_4 (0+v5.toNat) (0+v34.toNat)).sym_ (rdI h0_4 (0+v5.toNat) (0+v34.toNat)).num (riseF (rdI h0_4 (0+v5.toNat) (0+v34.toNat)).args (rdI h0_4 (0+v5.toNat) (0+v34.toNat)).into).fst (riseF (rdI h0_4 (0+v5.toNat) (0+v34.toNat)).args (rdI h0_4 (0+v5.toNat) (0+v34.toNat)).into).snd)) (0+v5.toNat) (0+v34.toNat)).num (rdI (wrI h0_4 (0+v5.toNat) (0+v34.toNat) (Ins.mk (rdI h0_4 (0+v5.toNat) (0+v34.toNat)).op (rdI h0_4 (0+v5.toNat) (0+v34.toNat)).type_ (rdI h0_4 (0+v5.toNat) (0+v34.toNat)).to_ (rdI h0_4 (0+v5.toNat) (0+v34.toNat)).sym_ (rdI h0_4 (0+v5.toNat) (0+v34.toNat)).num (riseF (rdI h0_4 (0+v5.toNat) (0+v34.toNat)).args (rdI h0_4 (0+v5.toNat) (0+v34.toNat)).into).fst (riseF (rdI h0_4 (0+v5.toNat) (0+v34.toNat)).args (rdI h0_4 (0+v5.toNat) (0+v34.toNat)).into).snd)) (0+v5.toNat) (0+v34.toNat)).args (rdI (wrI h0_4 (0+v5.toNat) (0+v34.toNat) (Ins.mk (rdI h0_4 (0+v5.toNat) (0+v34.toNat)).op (rdI h0_4 (0+v5.toNat) (0+v34.toNat)).type_ (rdI h0_4 (0+v5.toNat) (0+v34.toNat)).to_ (rdI h0_4 (0+v5.toNat) (0+v34.toNat)).sym_ (rdI h0_4 (0+v5.toNat) (0+v34.toNat)).num (riseF (rdI h0_4 (0+v5.toNat) (0+v34.toNat)).args (rdI h0_4 (0+v5.toNat) (0+v34.toNat)).into).fst (riseF (rdI h0_4 (0+v5.toNat) (0+v34.toNat)).args (rdI h0_4 (0+v5.toNat) (0+v34.toNat)).into).snd)) (0+v5.toNat) (0+v34.toNat)).into)) h1 h1_1 h1_2 h1_3 h1_4)
 else none
 else
 if ((rdI h0_4 (0+v5.toNat) (0+v34.toNat)).type_ == 0)=true then
 J k26_j3 (s26_j3 f v3 v4 v5 v23 v24 v33 v34 h0 h0_1 h0_2 h0_3 (wrI h0_4 (0+v5.toNat) (0+v34.toNat) (Ins.mk (rdI h0_4 (0+v5.toNat) (0+v34.toNat)).op (rdI h0_4 (0+v5.toNat) (0+v34.toNat)).type_ 0 (rdI h0_4 (0+v5.toNat) (0+v34.toNat)).sym_ (rdI h0_4 (0+v5.toNat) (0+v34.toNat)).num (rdI h0_4 (0+v5.toNat) (0+v34.toNat)).args (rdI h0_4 (0+v5.toNat) (0+v34.toNat)).into)) h1 h1_1 h1_2 h1_3 h1_4)
 else
 if (!match mget v3 (.int IntKind.i64 (rdI h0_4 (0+v5.toNat) (0+v34.toNat)).to_) with|some val=>true|none=>false)=true then
 J k26_j3 (s26_j3 f (mput v3 (.int IntKind.i64 (rdI h0_4 (0+v5.toNat) (0+v34.toNat)).to_) (IntKind.i64.wrap (v4+1))) (IntKind.i64.wrap (v4+1)) v5 v23 v24 v33 v34 h0 h0_1 h0_2 h0_3 (wrI h0_4 (0+v5.toNat) (0+v34.toNat) (Ins.mk (rdI h0_4 (0+v5.toNat) (0+v34.toNat)).op (rdI h0_4 (0+v5.toNat) (0+v34.toNat)).type_ (IntKind.i64.wrap (v4+1)) (rdI h0_4 (0+v5.toNat) (0+v34.toNat)).sym_ (rdI h0_4 (0+v5.toNat) (0+v34.toNat)).num (rdI h0_4 (0+v5.toNat) (0+v34.toNat)).args (rdI h0_4 (0+v5.toNat) (0+v34.toNat)).into)) h1 h1_1 h1_2 h1_3 h1_4)
 else
 J k26_j3 (s26_j3 f v3 (IntKind.i64.wrap (v4+1)) v5 v23 v24 v33 v34 h0 h0_1 h0_2 h0_3 (wrI h0_4 (0+v5.toNat) (0+v34.toNat) (Ins.mk (rdI h0_4 (0+v5.toNat) (0+v34.toNat)).op (rdI h0_4 (0+v5.toNat) (0+v34.toNat)).type_ (IntKind.i64.wrap (v4+1)) (rdI h0_4 (0+v5.toNat) (0+v34.toNat)).sym_ (rdI h0_4 (0+v5.toNat) (0+v34.toNat)).num (rdI h0_4 (0+v5.toNat) (0+v34.toNat)).args (rdI h0_4 (0+v5.toNat) (0+v34.toNat)).into)) h1 h1_1 h1_2 h1_3 h1_4)
 else
 if ((rdI h0_4 (0+v5.toNat) (0+v34.toNat)).type_ == 0)=true then
 J k26_j3 (s26_j3 f v3 v4 v5 v23 v24 v33 v34 h0 h0_1 h0_2 h0_3 (wrI h0_4 (0+v5.toNat) (0+v34.toNat) (Ins.mk (rdI h0_4 (0+v5.toNat) (0+v34.toNat)).op (rdI h0_4 (0+v5.toNat) (0+v34.toNat)).type_ 0 (rdI h0_4 (0+v5.toNat) (0+v34.toNat)).sym_ (rdI h0_4 (0+v5.toNat) (0+v34.toNat)).num (rdI h0_4 (0+v5.toNat) (0+v34.toNat)).args (rdI h0_4 (0+v5.toNat) (0+v34.toNat)).into)) h1 h1_1 h1_2 h1_3 h1_4)
 else
 if (!match mget v3 (.int IntKind.i64 (rdI h0_4 (0+v5.toNat) (0+v34.toNat)).to_) with|some val=>true|none=>false)=true then
 J k26_j3 (s26_j3 f (mput v3 (.int IntKind.i64 (rdI h0_4 (0+v5.toNat) (0+v34.toNat)).to_) (IntKind.i64.wrap (v4+1))) (IntKind.i64.wrap (v4+1)) v5 v23 v24 v33 v34 h0 h0_1 h0_2 h0_3 (wrI h0_4 (0+v5.toNat) (0+v34.toNat) (Ins.mk (rdI h0_4 (0+v5.toNat) (0+v34.toNat)).op (rdI h0_4 (0+v5.toNat) (0+v34.toNat)).type_ (IntKind.i64.wrap (v4+1)) (rdI h0_4 (0+v5.toNat) (0+v34.toNat)).sym_ (rdI h0_4 (0+v5.toNat) (0+v34.toNat)).num (rdI h0_4 (0+v5.toNat) (0+v34.toNat)).args (rdI h0_4 (0+v5.toNat) (0+v34.toNat)).into)) h1 h1_1 h1_2 h1_3 h1_4)
 else
 J k26_j3 (s26_j3 f v3 (IntKind.i64.wrap (v4+1)) v5 v23 v24 v33 v34 h0 h0_1 h0_2 h0_3 (wrI h0_4 (0+v5.toNat) (0+v34.toNat) (Ins.mk (rdI h0_4 (0+v5.toNat) (0+v34.toNat)).op (rdI h0_4 (0+v5.toNat) (0+v34.toNat)).type_ (IntKind.i64.wrap (v4+1)) (rdI h0_4 (0+v5.toNat) (0+v34.toNat)).sym_ (rdI h0_4 (0+v5.toNat) (0+v34.toNat)).num (rdI h0_4 (0+v5.toNat) (0+v34.toNat)).args (rdI h0_4 (0+v5.toNat) (0+v34.toNat)).into)) h1 h1_1 h1_2 h1_3 h1_4)
 else none
 else none
 else none
 else none
 else
 J k26_j2 (s26_j2 f v3 v4 v23 v24 h0 h0_1 h0_2 h0_3 h0_4 h1 h1_1 h1_2 h1_3 h1_4):=by kernel_rfl
theorem e26_j0 (J f v3 h0 h0_1 h0_2 h0_3 h0_4 h1 h1_1 h1_2 h1_3 h1_4):run tb C26 U26 J (R26 f) 4096 k26_j0 (s26_j0 f v3 h0 h0_1 h0_2 h0_3 h0_4 h1 h1_1 h1_2 h1_3 h1_4)=
 J k26_l4 (s26_l4 f v3 ((↑h0_4.length:Int)) 0 h0 h0_1 h0_2 h0_3 h0_4 h1 h1_1 h1_2 h1_3 h1_4):=by kernel_rfl
theorem e26_j3 (J f v3 v4 v5 v23 v24 v33 v34 h0 h0_1 h0_2 h0_3 h0_4 h1 h1_1 h1_2 h1_3 h1_4):run tb C26 U26 J (R26 f) 4096 k26_j3 (s26_j3 f v3 v4 v5 v23 v24 v33 v34 h0 h0_1 h0_2 h0_3 h0_4 h1 h1_1 h1_2 h1_3 h1_4)=
 J k26_l2 (s26_l2 f v3 v4 v5 v23 v24 v33 (IntKind.i64.wrap (v34+1)) h0 h0_1 h0_2 h0_3 h0_4 h1 h1_1 h1_2 h1_3 h1_4):=by kernel_rfl
theorem e26_j2 (J f v3 v4 v23 v24 h0 h0_1 h0_2 h0_3 h0_4 h1 h1_1 h1_2 h1_3 h1_4):run tb C26 U26 J (R26 f) 4096 k26_j2 (s26_j2 f v3 v4 v23 v24 h0 h0_1 h0_2 h0_3 h0_4 h1 h1_1 h1_2 h1_3 h1_4)=
 J k26_j1 (s26_j1 f v3 v4 v23 v24 h0 h0_1 h0_2 h0_3 h0_4 h1 h1_1 h1_2 h1_3 h1_4):=by kernel_rfl
theorem e26_l4 (J f v3 v100 v101 h0 h0_1 h0_2 h0_3 h0_4 h1 h1_1 h1_2 h1_3 h1_4):run tb C26 U26 J (R26 f) 4096 k26_l4 (s26_l4 f v3 v100 v101 h0 h0_1 h0_2 h0_3 h0_4 h1 h1_1 h1_2 h1_3 h1_4)=
 if decide (v101<v100)=true then
 if 0≤v101 then
 if v101<(↑h0_4.length:Int) then
 J k26_l6 (s26_l6 f v3 v100 v101 (0+v101.toNat) ((↑(h0_4.getD (0+v101.toNat) (Block.mk [])).ins.length:Int)) 0 h0 h0_1 h0_2 h0_3 h0_4 h1 h1_1 h1_2 h1_3 h1_4)
 else none
 else none
 else
 J k26_j4 (s26_j4 f h0 h0_1 h0_2 h0_3 h0_4 h1 h1_1 h1_2 h1_3 h1_4):=by kernel_rfl
theorem e26_j1 (J f v3 v4 v23 v24 h0 h0_1 h0_2 h0_3 h0_4 h1 h1_1 h1_2 h1_3 h1_4):run tb C26 U26 J (R26 f) 4096 k26_j1 (s26_j1 f v3 v4 v23 v24 h0 h0_1 h0_2 h0_3 h0_4 h1 h1_1 h1_2 h1_3 h1_4)=
 J k26_l0 (s26_l0 f v3 v4 v23 (IntKind.i64.wrap (v24+1)) h0 h0_1 h0_2 h0_3 h0_4 h1 h1_1 h1_2 h1_3 h1_4):=by kernel_rfl
theorem e26_l6 (J f v3 v100 v101 v109 v110 v111 h0 h0_1 h0_2 h0_3 h0_4 h1 h1_1 h1_2 h1_3 h1_4):run tb C26 U26 J (R26 f) 4096 k26_l6 (s26_l6 f v3 v100 v101 v109 v110 v111 h0 h0_1 h0_2 h0_3 h0_4 h1 h1_1 h1_2 h1_3 h1_4)=
 if decide (v111<v110)=true then
 if 0≤v111 then
 if v111<(↑(h0_4.getD v109 (Block.mk [])).ins.length:Int) then
 J k26_l8 (s26_l8 f v3 ((rdI h0_4 v109 (0+v111.toNat)).op) ((rdI h0_4 v109 (0+v111.toNat)).type_) ((rdI h0_4 v109 (0+v111.toNat)).to_) ((rdI h0_4 v109 (0+v111.toNat)).sym_) ((rdI h0_4 v109 (0+v111.toNat)).num) v109 (0+v111.toNat) false v109 (0+v111.toNat) false v100 v101 v109 v110 v111 v109 (0+v111.toNat) ((↑(rdI h0_4 v109 (0+v111.toNat)).args.length:Int)) 0 h0 h0_1 h0_2 h0_3 h0_4 h1 h1_1 h1_2 h1_3 h1_4)
 else none
 else none
 else
 J k26_j6 (s26_j6 f v3 v100 v101 h0 h0_1 h0_2 h0_3 h0_4 h1 h1_1 h1_2 h1_3 h1_4):=by kernel_rfl
theorem e26_j4 (J f h0 h0_1 h0_2 h0_3 h0_4 h1 h1_1 h1_2 h1_3 h1_4):run tb C26 U26 J (R26 f) 4096 k26_j4 (s26_j4 f h0 h0_1 h0_2 h0_3 h0_4 h1 h1_1 h1_2 h1_3 h1_4)=
 some (.agg [.v (.string h0), .v (.bool h0_1), .sl true 3 h0_2, .v (.int .i64 h0_3), .sl true 44 h0_4],[.dead]):=by kernel_rfl
theorem e26_l8 (J f v3 v12 v12_1 v12_2 v12_3 v12_4 v12_5 v12_6 v12_7 v12_8 v12_9 v12_10 v100 v101 v109 v110 v111 v116 v116_1 v117 v118 h0 h0_1 h0_2 h0_3 h0_4 h1 h1_1 h1_2 h1_3 h1_4):run tb C26 U26 J (R26 f) 4096 k26_l8 (s26_l8 f v3 v12 v12_1 v12_2 v12_3 v12_4 v12_5 v12_6 v12_7 v12_8 v12_9 v12_10 v100 v101 v109 v110 v111 v116 v116_1 v117 v118 h0 h0_1 h0_2 h0_3 h0_4 h1 h1_1 h1_2 h1_3 h1_4)=
 if decide (v118<v117)=true then
 if 0≤v118 then
 if v118<(↑(rdI h0_4 v116 v116_1).args.length:Int) then
 if decide ((rdI h0_4 v116 v116_1).args.getD (0+v118.toNat) 0≥1)=true then
 if decide ((rdI h0_4 v116 v116_1).args.getD (0+v118.toNat) 0≤(↑h0_2.length:Int))=true then
 J k26_j9 (s26_j9 f v3 v12 v12_1 v12_2 v12_3 v12_4 v12_5 v12_6 v12_7 v12_8 v12_9 v12_10 v100 v101 v109 v110 v111 v116 v116_1 v117 v118 h0 h0_1 h0_2 h0_3 h0_4 h1 h1_1 h1_2 h1_3 h1_4)
 else
 if 0≤v118 then
 if v118<(↑(rdI h0_4 v12_5 v12_6).args.length:Int) then
 J k26_j9 (s26_j9 f v3 v12 v12_1 v12_2 v12_3 v12_4 v12_5 v12_6 v12_7 v12_8 v12_9 v12_10 v100 v101 v109 v110 v111 v116 v116_1 v117 v118 h0 h0_1 h0_2 h0_3 (wrI h0_4 v12_5 v12_6 (Ins.mk (rdI h0_4 v12_5 v12_6).op (rdI h0_4 v12_5 v12_6).type_ (rdI h0_4 v12_5 v12_6).to_ (rdI h0_4 v12_5 v12_6).sym_ (rdI h0_4 v12_5 v12_6).num ((rdI h0_4 v12_5 v12_6).args.set (0+v118.toNat) (match mget v3 (.int IntKind.i64 ((rdI h0_4 v116 v116_1).args.getD (0+v118.toNat) 0)) with|some x=>x|none=>0)) (rdI h0_4 v12_5 v12_6).into)) h1 h1_1 h1_2 h1_3 h1_4)
 else none
 else none
 else
 if 0≤v118 then
 if v118<(↑(rdI h0_4 v12_5 v12_6).args.length:Int) then
 J k26_j9 (s26_j9 f v3 v12 v12_1 v12_2 v12_3 v12_4 v12_5 v12_6 v12_7 v12_8 v12_9 v12_10 v100 v101 v109 v110 v111 v116 v116_1 v117 v118 h0 h0_1 h0_2 h0_3 (wrI h0_4 v12_5 v12_6 (Ins.mk (rdI h0_4 v12_5 v12_6).op (rdI h0_4 v12_5 v12_6).type_ (rdI h0_4 v12_5 v12_6).to_ (rdI h0_4 v12_5 v12_6).sym_ (rdI h0_4 v12_5 v12_6).num ((rdI h0_4 v12_5 v12_6).args.set (0+v118.toNat) (match mget v3 (.int IntKind.i64 ((rdI h0_4 v116 v116_1).args.getD (0+v118.toNat) 0)) with|some x=>x|none=>0)) (rdI h0_4 v12_5 v12_6).into)) h1 h1_1 h1_2 h1_3 h1_4)
 else none
 else none
 else none
 else none
 else
 J k26_j8 (s26_j8 f v3 v100 v101 v109 v110 v111 h0 h0_1 h0_2 h0_3 h0_4 h1 h1_1 h1_2 h1_3 h1_4):=by kernel_rfl
theorem e26_j6 (J f v3 v100 v101 h0 h0_1 h0_2 h0_3 h0_4 h1 h1_1 h1_2 h1_3 h1_4):run tb C26 U26 J (R26 f) 4096 k26_j6 (s26_j6 f v3 v100 v101 h0 h0_1 h0_2 h0_3 h0_4 h1 h1_1 h1_2 h1_3 h1_4)=
 J k26_j5 (s26_j5 f v3 v100 v101 h0 h0_1 h0_2 h0_3 h0_4 h1 h1_1 h1_2 h1_3 h1_4):=by kernel_rfl
theorem e26_j9 (J f v3 v12 v12_1 v12_2 v12_3 v12_4 v12_5 v12_6 v12_7 v12_8 v12_9 v12_10 v100 v101 v109 v110 v111 v116 v116_1 v117 v118 h0 h0_1 h0_2 h0_3 h0_4 h1 h1_1 h1_2 h1_3 h1_4):run tb C26 U26 J (R26 f) 4096 k26_j9 (s26_j9 f v3 v12 v12_1 v12_2 v12_3 v12_4 v12_5 v12_6 v12_7 v12_8 v12_9 v12_10 v100 v101 v109 v110 v111 v116 v116_1 v117 v118 h0 h0_1 h0_2 h0_3 h0_4 h1 h1_1 h1_2 h1_3 h1_4)=
 J k26_l8 (s26_l8 f v3 v12 v12_1 v12_2 v12_3 v12_4 v12_5 v12_6 v12_7 v12_8 v12_9 v12_10 v100 v101 v109 v110 v111 v116 v116_1 v117 (IntKind.i64.wrap (v118+1)) h0 h0_1 h0_2 h0_3 h0_4 h1 h1_1 h1_2 h1_3 h1_4):=by kernel_rfl
theorem e26_j8 (J f v3 v100 v101 v109 v110 v111 h0 h0_1 h0_2 h0_3 h0_4 h1 h1_1 h1_2 h1_3 h1_4):run tb C26 U26 J (R26 f) 4096 k26_j8 (s26_j8 f v3 v100 v101 v109 v110 v111 h0 h0_1 h0_2 h0_3 h0_4 h1 h1_1 h1_2 h1_3 h1_4)=
 J k26_j7 (s26_j7 f v3 v100 v101 v109 v110 v111 h0 h0_1 h0_2 h0_3 h0_4 h1 h1_1 h1_2 h1_3 h1_4):=by kernel_rfl
theorem e26_j5 (J f v3 v100 v101 h0 h0_1 h0_2 h0_3 h0_4 h1 h1_1 h1_2 h1_3 h1_4):run tb C26 U26 J (R26 f) 4096 k26_j5 (s26_j5 f v3 v100 v101 h0 h0_1 h0_2 h0_3 h0_4 h1 h1_1 h1_2 h1_3 h1_4)=
 J k26_l4 (s26_l4 f v3 v100 (IntKind.i64.wrap (v101+1)) h0 h0_1 h0_2 h0_3 h0_4 h1 h1_1 h1_2 h1_3 h1_4):=by kernel_rfl
theorem e26_j7 (J f v3 v100 v101 v109 v110 v111 h0 h0_1 h0_2 h0_3 h0_4 h1 h1_1 h1_2 h1_3 h1_4):run tb C26 U26 J (R26 f) 4096 k26_j7 (s26_j7 f v3 v100 v101 v109 v110 v111 h0 h0_1 h0_2 h0_3 h0_4 h1 h1_1 h1_2 h1_3 h1_4)=
 J k26_l6 (s26_l6 f v3 v100 v101 v109 v110 (IntKind.i64.wrap (v111+1)) h0 h0_1 h0_2 h0_3 h0_4 h1 h1_1 h1_2 h1_3 h1_4):=by kernel_rfl

theorem in26:Entered 26:=⟨Try.f26,b26,by kernel_rfl,by kernel_rfl,by kernel_rfl⟩
theorem fn26 (f:Ev.Func) {res:AV Ty} {outs:List (AV Ty)} (h:Ends C26 U26 (R26 f) [.code b26] ⟨slotsA (a26 f) 0 0,heapA (a26 f)⟩ (some (res,outs))):CallOk tb Try.prog 26 (a26 f) res outs:=by
 obtain ⟨n0,hn⟩:=h
 exact fn_ok (C:=C26) (U:=U26) (n:=0+n0) (q:= .keep) tbOk good (fun f mu S h=>by
  unfold C26 at h
  simp only at h
  split at h
  ·cases h;exact ⟨in76,S76_ok⟩
  ·cases h;exact ⟨in77,S77_ok⟩
  ·cases h) mixed (fn:=Try.f26) (body:=b26) (by kernel_rfl) (by kernel_rfl) rfl rfl (by show 1≤143;omega) (hn 0)
section
variable {f:Ev.Func}
abbrev st26 (f:Ev.Func) (m:List (Value×Int)) (n N A:Nat) (l:List Ev.Block):St Ty:=s26_l0 f m n N A f.name f.out f.params f.result l ByteArray.empty false [] 0 []
abbrev in26s (f:Ev.Func) (m:List (Value×Int)) (n N A M k:Nat) (l:List Ev.Block):St Ty:=s26_l2 f m n A N A M k f.name f.out f.params f.result l ByteArray.empty false [] 0 []
theorem getD_match (o:Option Int):(match o with|some x=>x|none=>0)=o.getD 0:=by cases o<;>rfl
theorem Num.one {A C:List Ev.Block} {P Q:List Ev.Ins} {i:Ev.Ins} {m:List (Value×Int)} {n N M:Nat} (hi:okIns i) (hn:n≤2000000) (hP:P.length≤1000) (hM:P.length<M) (hA:A.length≤1000):
  Goes C26 U26 (R26 f) k26_l2 (in26s f m n N A.length M P.length (A++Block.mk (P++i :: Q) :: C)) k26_l2 (in26s f (map1 m n i) (step1 n i) N A.length M (P.length+1) (A++Block.mk (P++num1 n i :: Q) :: C)):=by
 have a1:A.length<(A++Block.mk (P++i :: Q) :: C).length:=by simp only [List.length_append,List.length_cons];omega
 have a2:P.length<(P++i :: Q).length:=by simp only [List.length_append,List.length_cons];omega
 have w1:IntKind.i64.wrap ((n:Int)+1)=((n+1:Nat):Int):=wrap_nat rfl (by omega)
 have two: ∀(m':List (Value×Int)) (n':Nat) (l':List Ev.Block),(∀J:List Item→St Ty→EvR,run tb C26 U26 J (R26 f) 4096 k26_l2 (in26s f m n N A.length M P.length (A++Block.mk (P++i :: Q) :: C))=J k26_j3 (s26_j3 f m' n' A.length N A.length M P.length f.name f.out f.params f.result l' ByteArray.empty false [] 0 []))→
   Goes C26 U26 (R26 f) k26_l2 (in26s f m n N A.length M P.length (A++Block.mk (P++i :: Q) :: C)) k26_l2 (in26s f m' n' N A.length M (P.length+1) l'):=fun m' n' l' h=>by
  refine Goes.trans (.step h) (.step fun J=> ?_)
  rw [e26_j3]
  simp (disch:=first|omega|assumption|(rw [dT];omega)|(rw [dF];omega)) only [↓iP,↓iN,iT,iF,wrap_up,tN,Nat.zero_add]
  rfl
 by_cases ht:i.type_=0
 ·have e1:map1 m n i=m:=by unfold map1;rw [if_pos ht]
  have e2:step1 n i=n:=by unfold step1;rw [if_pos ht]
  rw [e1,e2]
  refine two _ _ _ fun J=> ?_
  rw [in26s,e26_l2]
  simp only [Int.toNat_natCast,Nat.zero_add,rdI_mid,wrI_mid,blk_mid]
  have t1:(i.type_ == (0:Int))=true:=by simp [ht]
  by_cases hp:i.op=26
  ·have t2:(i.op == (26:Int))=true:=by simp [hp]
   by_cases hq:i.args.length=i.into.length
   ·have t3:((i.args.length:Int) == (i.into.length:Int))=true:=by simp [hq]
    have t4:i.args.length=i.into.length∧i.into.length≤1000:=⟨hq,hi.2⟩
    rw [if_pos t2,if_pos t3,if_pos t4,if_pos t1]
    simp (disch:=first|omega|assumption|(rw [dT];omega)|(rw [dF];omega)) only [↓iP,↓iN,iT,iF,wrap_up,tN,Nat.zero_add]
    unfold num1 risI
    rw [if_pos ⟨hp,hq⟩,if_pos ht]
   ·have t3: ¬((i.args.length:Int) == (i.into.length:Int))=true:=by simp;omega
    rw [if_pos t2,if_neg t3,if_pos t1]
    simp (disch:=first|omega|assumption|(rw [dT];omega)|(rw [dF];omega)) only [↓iP,↓iN,iT,iF,wrap_up,tN,Nat.zero_add]
    unfold num1 risI
    rw [if_neg (fun h=>hq h.2),if_pos ht]
  ·have t2: ¬(i.op == (26:Int))=true:=by simp [hp]
   rw [if_neg t2,if_pos t1]
   simp (disch:=first|omega|assumption|(rw [dT];omega)|(rw [dF];omega)) only [↓iP,↓iN,iT,iF,wrap_up,tN,Nat.zero_add]
   unfold num1 risI
   rw [if_neg (fun h=>hp h.1),if_pos ht]
 ·have e2:step1 n i=n+1:=by unfold step1;rw [if_neg ht]
  rw [e2]
  refine two _ _ _ fun J=> ?_
  rw [in26s,e26_l2]
  simp only [Int.toNat_natCast,Nat.zero_add,rdI_mid,wrI_mid,blk_mid,w1]
  have t1: ¬(i.type_ == (0:Int))=true:=by simp [ht]
  have fin: ∀(x y:EvR),(mget m (key i.to_)=none→x=J k26_j3 (s26_j3 f (mput m (key i.to_) ((n+1:Nat):Int)) (n+1:Nat) A.length N A.length M P.length f.name f.out f.params f.result (A++Block.mk (P++num1 n i :: Q) :: C) ByteArray.empty false [] 0 []))→
    ((mget m (key i.to_)).isSome→y=J k26_j3 (s26_j3 f m (n+1:Nat) A.length N A.length M P.length f.name f.out f.params f.result (A++Block.mk (P++num1 n i :: Q) :: C) ByteArray.empty false [] 0 []))→
    (if (!match mget m (key i.to_) with|some val=>true|none=>false)=true then x else y)=J k26_j3 (s26_j3 f (map1 m n i) (n+1:Nat) A.length N A.length M P.length f.name f.out f.params f.result (A++Block.mk (P++num1 n i :: Q) :: C) ByteArray.empty false [] 0 []):=fun x y hx hy=>by
   unfold map1
   rw [if_neg ht]
   cases hk:mget m (key i.to_) with
   |none=>simpa using hx hk
   |some v=>simpa using hy (by rw [hk];rfl)
  by_cases hp:i.op=26
  ·have t2:(i.op == (26:Int))=true:=by simp [hp]
   by_cases hq:i.args.length=i.into.length
   ·have t3:((i.args.length:Int) == (i.into.length:Int))=true:=by simp [hq]
    have t4:i.args.length=i.into.length∧i.into.length≤1000:=⟨hq,hi.2⟩
    rw [if_pos t2,if_pos t3,if_pos t4,if_neg t1]
    simp (disch:=first|omega|assumption|(rw [dT];omega)|(rw [dF];omega)) only [↓iP,↓iN,iT,iF,wrap_up,tN,Nat.zero_add]
    refine fin _ _ (fun _=> ?_) fun _=> ?_
    all_goals
     unfold num1 risI
     rw [if_pos ⟨hp,hq⟩,if_neg ht]<;>rfl
   ·have t3: ¬((i.args.length:Int) == (i.into.length:Int))=true:=by simp;omega
    rw [if_pos t2,if_neg t3,if_neg t1]
    simp (disch:=first|omega|assumption|(rw [dT];omega)|(rw [dF];omega)) only [↓iP,↓iN,iT,iF,wrap_up,tN,Nat.zero_add]
    refine fin _ _ (fun _=> ?_) fun _=> ?_
    all_goals
     unfold num1 risI
     rw [if_neg (fun h=>hq h.2),if_neg ht]<;>rfl
  ·have t2: ¬(i.op == (26:Int))=true:=by simp [hp]
   rw [if_neg t2,if_neg t1]
   simp (disch:=first|omega|assumption|(rw [dT];omega)|(rw [dF];omega)) only [↓iP,↓iN,iT,iF,wrap_up,tN,Nat.zero_add]
   refine fin _ _ (fun _=> ?_) fun _=> ?_
   all_goals
    unfold num1 risI
    rw [if_neg (fun h=>hp h.1),if_neg ht]<;>rfl
theorem Num.row {A C:List Ev.Block} {N M:Nat} (hA:A.length≤1000) (hM:M≤1000): ∀(Q P:List Ev.Ins) (m:List (Value×Int)) (n:Nat),M=P.length+Q.length→(∀i,i∈Q→okIns i)→n+Q.length≤2000000→
  Goes C26 U26 (R26 f) k26_l2 (in26s f m n N A.length M P.length (A++Block.mk (P++Q) :: C)) k26_j2 (s26_j2 f (mapL m n Q) (stepL n Q) N A.length f.name f.out f.params f.result (A++Block.mk (P++numL n Q) :: C) ByteArray.empty false [] 0 [])
 |[],P,m,n,h,_,_=> .step fun J=>by
  simp only [List.length_nil,Nat.add_zero] at h
  rw [in26s,e26_l2,if_neg (by simp;omega)]
  rfl
 |i :: Q,P,m,n,h,hq,hn=>by
  simp only [List.length_cons] at h hn
  refine Goes.trans (Num.one (hq i List.mem_cons_self) (by omega) (by omega) (by omega) hA) ?_
  have e: ∀x,A++Block.mk (P++x :: Q) :: C=A++Block.mk ((P++[x])++Q) :: C:=fun x=>by simp
  have hs:step1 n i≤n+1:=by unfold step1;split<;>omega
  have:=Num.row (A:=A) (C:=C) (N:=N) (M:=M) hA hM Q (P++[num1 n i]) (map1 m n i) (step1 n i) (by simp;omega) (fun x hx=>hq x (List.mem_cons_of_mem _ hx)) (by omega)
  rw [e]
  rw [List.length_append,List.length_singleton] at this
  refine Goes.trans this ?_
  simp only [numL,mapL,stepL,List.append_assoc,List.singleton_append]
  exact .refl
theorem Num.all {N:Nat} (hN:N≤1000): ∀(C A:List Ev.Block) (m:List (Value×Int)) (n:Nat),N=A.length+C.length→(∀b,b∈C→okBl b)→n+szT C≤2000000→
  Goes C26 U26 (R26 f) k26_l0 (st26 f m n N A.length (A++C)) k26_j0 (s26_j0 f (mapB m n C) f.name f.out f.params f.result (A++numB n C) ByteArray.empty false [] 0 [])
 |[],A,m,n,h,_,_=> .step fun J=>by
  simp only [List.length_nil,Nat.add_zero] at h
  rw [st26,e26_l0,if_neg (by simp;omega)]
  rfl
 |b :: C,A,m,n,h,hb,hn=>by
  simp only [List.length_cons] at h
  have hs:szT (b :: C)=b.ins.length+szT C:=by simp [szT]
  have hl:=stepL_le b.ins n
  have hb1:=hb b List.mem_cons_self
  refine Goes.trans (k':=k26_l2) (s':=in26s f m n N A.length b.ins.length ([]:List Ev.Ins).length (A++Block.mk ([]++b.ins) :: C)) (.step fun J=> ?_) (Goes.trans (Num.row (by omega) hb1.1 b.ins [] m n (by simp) hb1.2 (by omega)) ?_)
  ·have a1:A.length<(A++b :: C).length:=by simp only [List.length_append,List.length_cons];omega
   rw [st26,e26_l0]
   simp only [Int.toNat_natCast,Nat.zero_add,blk_mid]
   simp (disch:=first|omega|assumption|(rw [dT];omega)|(rw [dF];omega)) only [↓iP,↓iN,iT,iF,wrap_up,tN,Nat.zero_add]
   rfl
  refine Goes.trans (.step fun J=>e26_j2 ..) (Goes.trans (.step fun J=>e26_j1 ..) ?_)
  have:=Num.all hN C (A++[Block.mk (numL n b.ins)]) (mapL m n b.ins) (stepL n b.ins) (by simp;omega) (fun x hx=>hb x (List.mem_cons_of_mem _ hx)) (by omega)
  rw [List.length_append,List.length_singleton] at this
  have w1:IntKind.i64.wrap ((A.length:Int)+1)=((A.length+1:Nat):Int):=wrap_nat rfl (by omega)
  rw [w1]
  simp only [List.append_assoc,List.singleton_append,List.nil_append] at this⊢
  simp only [numB,mapB,stepB]
  exact this
abbrev st8 (f:Ev.Func) (m:List (Value×Int)) (i0:Ev.Ins) (N A M k L j:Nat) (l:List Ev.Block):St Ty:=s26_l8 f m i0.op i0.type_ i0.to_ i0.sym_ i0.num A k false A k false N A A M k A k L j f.name f.out f.params f.result l ByteArray.empty false [] 0 []
abbrev st6 (f:Ev.Func) (m:List (Value×Int)) (N A M k:Nat) (l:List Ev.Block):St Ty:=s26_l6 f m N A A M k f.name f.out f.params f.result l ByteArray.empty false [] 0 []
abbrev st4 (f:Ev.Func) (m:List (Value×Int)) (N A:Nat) (l:List Ev.Block):St Ty:=s26_l4 f m N A f.name f.out f.params f.result l ByteArray.empty false [] 0 []
def withA (i:Ev.Ins) (l:List Int):Ev.Ins:=⟨i.op,i.type_,i.to_,i.sym_,i.num,l,i.into⟩
theorem Sub.one {A C:List Ev.Block} {P Q:List Ev.Ins} {i0 i:Ev.Ins} {X Y:List Int} {v:Int} {m:List (Value×Int)} {N M L:Nat} (hp:f.params.length≤1000) (hX:X.length≤1000) (hL:X.length<L):
  Goes C26 U26 (R26 f) k26_l8 (st8 f m i0 N A.length M P.length L X.length (A++Block.mk (P++withA i (X++v :: Y) :: Q) :: C)) k26_l8 (st8 f m i0 N A.length M P.length L (X.length+1) (A++Block.mk (P++withA i (X++subV m f.params.length v :: Y) :: Q) :: C)):=by
 have a1:X.length<(X++v :: Y).length:=by simp only [List.length_append,List.length_cons];omega
 have g1:(X++v :: Y).getD X.length 0=v:=by simp [List.getD_eq_getElem?_getD]
 have g2: ∀x,(X++v :: Y).set X.length x=X++x :: Y:=fun x=>by simp
 refine Goes.trans (k':=k26_j9) (s':=s26_j9 f m i0.op i0.type_ i0.to_ i0.sym_ i0.num A.length P.length false A.length P.length false N A.length A.length M P.length A.length P.length L X.length f.name f.out f.params f.result (A++Block.mk (P++withA i (X++subV m f.params.length v :: Y) :: Q) :: C) ByteArray.empty false [] 0 []) (.step fun J=> ?_) (.step fun J=> ?_)
 ·rw [st8,e26_l8]
  simp only [Int.toNat_natCast,Nat.zero_add,rdI_mid,wrI_mid,blk_mid,withA,g1,g2]
  unfold subV
  by_cases h1:1≤v
  ·by_cases h2:v≤f.params.length
   ·rw [if_pos (show 1≤v∧v≤f.params.length from ⟨h1,h2⟩)]
    simp (disch:=first|omega|assumption|(rw [dT];omega)|(rw [dF];omega)) only [↓iP,↓iN,iT,iF,wrap_up,tN,Nat.zero_add]
   ·rw [if_neg (show ¬(1≤v∧v≤f.params.length) from fun h=>h2 h.2)]
    simp (disch:=first|omega|assumption|(rw [dT];omega)|(rw [dF];omega)) only [↓iP,↓iN,iT,iF,wrap_up,tN,Nat.zero_add]
    rw [←getD_match]
    rfl
  ·rw [if_neg (show ¬(1≤v∧v≤f.params.length) from fun h=>h1 h.1)]
   simp (disch:=first|omega|assumption|(rw [dT];omega)|(rw [dF];omega)) only [↓iP,↓iN,iT,iF,wrap_up,tN,Nat.zero_add]
   rw [←getD_match]
   rfl
 ·rw [e26_j9]
  simp (disch:=first|omega|assumption|(rw [dT];omega)|(rw [dF];omega)) only [↓iP,↓iN,iT,iF,wrap_up,tN,Nat.zero_add]
  rfl
theorem Sub.args {A C:List Ev.Block} {P Q:List Ev.Ins} {i0 i:Ev.Ins} {m:List (Value×Int)} {N M L:Nat} (hp:f.params.length≤1000) (hL:L≤1000): ∀(Y X:List Int),L=X.length+Y.length→
  Goes C26 U26 (R26 f) k26_l8 (st8 f m i0 N A.length M P.length L X.length (A++Block.mk (P++withA i (X++Y) :: Q) :: C)) k26_j8 (s26_j8 f m N A.length A.length M P.length f.name f.out f.params f.result (A++Block.mk (P++withA i (X++Y.map (subV m f.params.length)) :: Q) :: C) ByteArray.empty false [] 0 [])
 |[],X,h=> .step fun J=>by
  simp only [List.length_nil,Nat.add_zero] at h
  rw [st8,e26_l8,if_neg (by simp;omega)]
  rfl
 |v :: Y,X,h=>by
  simp only [List.length_cons] at h
  refine Goes.trans (Sub.one hp (by omega) (by omega)) ?_
  have:=Sub.args (A:=A) (C:=C) (P:=P) (Q:=Q) (i0:=i0) (i:=i) (m:=m) (N:=N) (M:=M) hp hL Y (X++[subV m f.params.length v]) (by simp;omega)
  rw [List.length_append,List.length_singleton] at this
  simp only [List.append_assoc,List.singleton_append] at this
  exact this
theorem Sub.row {A C:List Ev.Block} {m:List (Value×Int)} {N M:Nat} (hp:f.params.length≤1000) (hM:M≤1000): ∀(Q P:List Ev.Ins),M=P.length+Q.length→(∀i,i∈Q→okIns i)→
  Goes C26 U26 (R26 f) k26_l6 (st6 f m N A.length M P.length (A++Block.mk (P++Q) :: C)) k26_j6 (s26_j6 f m N A.length f.name f.out f.params f.result (A++Block.mk (P++Q.map (subI m f.params.length)) :: C) ByteArray.empty false [] 0 [])
 |[],P,h,_=> .step fun J=>by
  simp only [List.length_nil,Nat.add_zero] at h
  rw [st6,e26_l6,if_neg (by simp;omega)]
  rfl
 |i :: Q,P,h,hq=>by
  simp only [List.length_cons] at h
  have a2:P.length<(P++i :: Q).length:=by simp only [List.length_append,List.length_cons];omega
  have hi:=hq i List.mem_cons_self
  refine Goes.trans (k':=k26_l8) (s':=st8 f m i N A.length M P.length i.args.length ([]:List Int).length (A++Block.mk (P++withA i ([]++i.args) :: Q) :: C)) (.step fun J=> ?_) (Goes.trans (Sub.args hp hi.1 i.args [] (by simp)) ?_)
  ·rw [st6,e26_l6]
   simp only [Int.toNat_natCast,Nat.zero_add,rdI_mid,wrI_mid,blk_mid]
   simp (disch:=first|omega|assumption|(rw [dT];omega)|(rw [dF];omega)) only [↓iP,↓iN,iT,iF,wrap_up,tN,Nat.zero_add]
   rfl
  refine Goes.trans (.step fun J=>e26_j8 ..) (Goes.trans (.step fun J=>e26_j7 ..) ?_)
  have:=Sub.row (A:=A) (C:=C) (m:=m) (N:=N) hp hM Q (P++[subI m f.params.length i]) (by simp;omega) (fun x hx=>hq x (List.mem_cons_of_mem _ hx))
  have w1:IntKind.i64.wrap ((P.length:Int)+1)=((P.length+1:Nat):Int):=wrap_nat rfl (by omega)
  rw [w1]
  rw [List.length_append,List.length_singleton] at this
  simp only [List.append_assoc,List.singleton_append,List.nil_append,List.map_cons] at this⊢
  exact this
theorem Sub.all {m:List (Value×Int)} {N:Nat} (hp:f.params.length≤1000) (hN:N≤1000): ∀(C A:List Ev.Block),N=A.length+C.length→(∀b,b∈C→okBl b)→
  Goes C26 U26 (R26 f) k26_l4 (st4 f m N A.length (A++C)) k26_j4 (s26_j4 f f.name f.out f.params f.result (A++C.map (subB m f.params.length)) ByteArray.empty false [] 0 [])
 |[],A,h,_=> .step fun J=>by
  simp only [List.length_nil,Nat.add_zero] at h
  rw [st4,e26_l4,if_neg (by simp;omega)]
  rfl
 |b :: C,A,h,hb=>by
  simp only [List.length_cons] at h
  have hb1:=hb b List.mem_cons_self
  have a1:A.length<(A++b :: C).length:=by simp only [List.length_append,List.length_cons];omega
  refine Goes.trans (k':=k26_l6) (s':=st6 f m N A.length b.ins.length ([]:List Ev.Ins).length (A++Block.mk ([]++b.ins) :: C)) (.step fun J=> ?_) (Goes.trans (Sub.row hp hb1.1 b.ins [] (by simp) hb1.2) ?_)
  ·rw [st4,e26_l4]
   simp only [Int.toNat_natCast,Nat.zero_add,blk_mid]
   simp (disch:=first|omega|assumption|(rw [dT];omega)|(rw [dF];omega)) only [↓iP,↓iN,iT,iF,wrap_up,tN,Nat.zero_add]
   rfl
  refine Goes.trans (.step fun J=>e26_j6 ..) (Goes.trans (.step fun J=>e26_j5 ..) ?_)
  have:=Sub.all (m:=m) hp hN C (A++[subB m f.params.length b]) (by simp;omega) (fun x hx=>hb x (List.mem_cons_of_mem _ hx))
  have w1:IntKind.i64.wrap ((A.length:Int)+1)=((A.length+1:Nat):Int):=wrap_nat rfl (by omega)
  rw [w1]
  rw [List.length_append,List.length_singleton] at this
  simp only [List.append_assoc,List.singleton_append,List.nil_append,List.map_cons] at this⊢
  exact this
end
theorem riseL (i:Ev.Ins):(risI i).args.length=i.args.length∧(risI i).into.length=i.into.length:=by
 unfold risI
 split
 ·exact riseF_len _ _
 ·exact ⟨rfl,rfl⟩
theorem numL_ok: ∀(l:List Ev.Ins) (n:Nat),(∀i,i∈l→okIns i)→(numL n l).length=l.length∧ ∀i,i∈numL n l→okIns i
 |[],n,h=>⟨rfl,fun i hi=>by cases hi⟩
 |x :: l,n,h=>by
  obtain ⟨h1,h2⟩:=numL_ok l (step1 n x) fun i hi=>h i (List.mem_cons_of_mem _ hi)
  refine ⟨by simp [numL,h1],fun i hi=> ?_⟩
  rcases List.mem_cons.1 hi with rfl|hi
  ·have:=h x List.mem_cons_self
   have h3:=riseL x
   unfold okIns at this⊢
   show (risI x).args.length≤1000∧(risI x).into.length≤1000
   omega
  ·exact h2 i hi
theorem numB_ok: ∀(l:List Ev.Block) (n:Nat),(∀b,b∈l→okBl b)→(numB n l).length=l.length∧ ∀b,b∈numB n l→okBl b
 |[],n,h=>⟨rfl,fun i hi=>by cases hi⟩
 |x :: l,n,h=>by
  obtain ⟨h1,h2⟩:=numB_ok l (stepL n x.ins) fun i hi=>h i (List.mem_cons_of_mem _ hi)
  refine ⟨by simp [numB,h1],fun i hi=> ?_⟩
  have h0:=h x List.mem_cons_self
  rcases List.mem_cons.1 hi with rfl|hi
  ·obtain ⟨h3,h4⟩:=numL_ok x.ins n h0.2
   exact ⟨by show (numL n x.ins).length≤1000;have:=h0.1;omega,h4⟩
  ·exact h2 i hi
theorem neat_ok (f:Ev.Func) (h:okF f):CallOk tb Try.prog 26 (a26 f) (.agg [.v (.string (neatF f).name), .v (.bool (neatF f).out), .sl true 3 (neatF f).params, .v (.int .i64 (neatF f).result), .sl true 44 (neatF f).blocks]) [.dead]:=by
 have hb:=h.2.1
 have hp:=h.1
 have hs:=h.sz
 obtain ⟨l1,l2⟩:=numB_ok f.blocks f.params.length h.2.2
 refine fn26 f (Goes.ends (k':=k26_l0) (s':=st26 f [] f.params.length f.blocks.length ([]:List Ev.Block).length ([]++f.blocks)) (.step fun J=> ?_) ?_)
 ·rw [e26,if_pos (show okF ⟨f.name,f.out,f.params,f.result,f.blocks⟩ from h)]
  rfl
 refine Goes.ends (Num.all hb f.blocks [] [] f.params.length (by simp) h.2.2 (by omega)) ?_
 refine Goes.ends (k':=k26_l4) (s':=st4 f (mapB [] f.params.length f.blocks) f.blocks.length ([]:List Ev.Block).length ([]++numB f.params.length f.blocks)) (.step fun J=> ?_) (Goes.ends (Sub.all hp hb (numB f.params.length f.blocks) [] (by simp [l1]) l2) (.step fun J=> ?_))
 ·rw [e26_j0]
  simp only [List.nil_append,l1]
  rfl
 ·rw [e26_j4]
  rfl
noncomputable def S26:List (AV Ty)→T (AV Ty×List (AV Ty))
 |[.agg x]=>match cod33.dec false x with
  |some f=> .ite (okF f) (okF.dec f) (.ret (.agg [.v (.string f.name), .v (.bool f.out), .sl true 3 f.params, .v (.int .i64 f.result), .sl true 44 (neatB f.params.length f.blocks)],[.dead])) .fail
  |none=> .fail
 |_=> .fail
theorem S26_ok (l:List (AV Ty)) (r:AV Ty) (outs:List (AV Ty)) (h:(S26 l).val=some (r,outs)):CallOk tb Try.prog 26 l r outs:=by
 unfold S26 at h
 split at h
 ·rename_i x
  split at h
  ·rename_i f e1
   rcases ite_val h with ⟨e,h⟩|⟨_,h⟩
   ·cases h
    have h1:=cod33_ok.dec false x f e1
    subst h1
    exact neat_ok f e
   ·cases h
  ·cases h
 ·cases h
end Go.Proofs.Ytggibjbcbicpjaa.Ev
namespace Go.Proofs.Ytggibjbcbicpjaa.Ev
open Go
noncomputable def b27:Code:=bodyOf Try.f27
def C27:Cfg Ty:=⟨fun
 |29=>some ([],S29)
 |78=>some ([],S78)
 |_=>none,fun _=>false,85,0⟩
def U27:Cuts:=⟨fun
 |0=>some []
 |1=>some [(2,none),(3,none),(5,none)]
 |2=>some [(2,none),(3,none),(5,none)]
 |_=>none,fun
 |0=>some [(2,none),(3,none),(5,none)]
 |2=>some [(2,none),(3,none),(5,none),(6,none),(7,none),(8,none)]
 |_=>none,fun _=>none⟩
noncomputable def k27_j0:List Item:=[.code (sndC (sndC (sndC b27)))]
noncomputable def k27_l0:List Item:=[.code (inC (inC (sndC (fstC (sndC (sndC b27)))))), .inLoop (inC (inC (sndC (fstC (sndC (sndC b27)))))), .inBlock 0, .code (sndC (sndC (sndC b27)))]
noncomputable def k27_j1:List Item:=[.code (sndC (sndC (inC (inC (sndC (fstC (sndC (sndC b27)))))))), .inLoop (inC (inC (sndC (fstC (sndC (sndC b27)))))), .inBlock 0, .code (sndC (sndC (sndC b27)))]
noncomputable def k27_j2:List Item:=[.inBlock 1, .code (sndC (sndC (inC (inC (sndC (fstC (sndC (sndC b27)))))))), .inLoop (inC (inC (sndC (fstC (sndC (sndC b27)))))), .inBlock 0, .code (sndC (sndC (sndC b27)))]
noncomputable def k27_l2:List Item:=[.code (inC (inC (sndC (sndC (sndC (inC (fstC (sndC (inC (inC (sndC (fstC (sndC (sndC b27)))))))))))))), .inLoop (inC (inC (sndC (sndC (sndC (inC (fstC (sndC (inC (inC (sndC (fstC (sndC (sndC b27)))))))))))))), .inBlock 2, .inBlock 1, .code (sndC (sndC (inC (inC (sndC (fstC (sndC (sndC b27)))))))), .inLoop (inC (inC (sndC (fstC (sndC (sndC b27)))))), .inBlock 0, .code (sndC (sndC (sndC b27)))]
def funA (a:Ev.Func):AV Ty:= .agg ((codA 33).enc false a)
noncomputable def R27 (a b:Ev.Func):St Ty→Option (AV Ty×List (AV Ty)):=resT tb C27 Try.f27.results.toList .keep [funA a,funA b]
def s27 (a b:Ev.Func) (i:Int):St Ty:=⟨[(2, .ptr 0 [] 0 0),(3, .ptr 1 [] 0 0),(5, .v (.int .i64 i))],[some ⟨33,false,[a]⟩,some ⟨33,false,[b]⟩]⟩
def t27 (a b:Ev.Func) (i:Int) (x y:List Ev.Ins) (k:Int):St Ty:=⟨[(2, .ptr 0 [] 0 0),(3, .ptr 1 [] 0 0),(5, .v (.int .i64 i)),(6, .sl false 46 x),(7, .sl false 46 y),(8, .v (.int .i64 k))],[some ⟨33,false,[a]⟩,some ⟨33,false,[b]⟩]⟩
def yes2 (q:Bool):Option (AV Ty×List (AV Ty)):=some (.v (.bool q),[.dead, .dead])
section
variable (J:List Item→St Ty→Option (AV Ty×List (AV Ty))) (a b:Ev.Func) (i k:Int) (x y:List Ev.Ins)
theorem e27:run tb C27 U27 J (R27 a b) 4096 [.code b27] ⟨slotsA [funA a,funA b] 0 0,heapA [funA a,funA b]⟩=
  if (!(a.1.toList == b.1.toList))=false then
   if (!(a.2 == b.2))=false then
    if (a.4 != b.4)=false then
     if a.3.length≤4611686018427387904 then
      if (!same3 a.3 b.3)=false then
       if ((a.5.length:Int) != b.5.length)=true then yes2 false else J k27_l0 (s27 a b 0)
      else yes2 false
     else none
    else yes2 false
   else yes2 false
  else yes2 false:=by kernel_rfl
theorem e27_l0:run tb C27 U27 J (R27 a b) 4096 k27_l0 (s27 a b i)=
  if decide (i<a.blocks.length)=true then
   if 0≤i then if i<a.blocks.length then if 0≤i then if i<b.blocks.length then
    if (((a.blocks.getD i.toNat default).ins.length:Int) != (b.blocks.getD i.toNat default).ins.length)=true then yes2 false
    else J k27_l2 (t27 a b i (a.blocks.getD i.toNat default).ins (b.blocks.getD i.toNat default).ins 0)
   else none else none else none else none
  else J k27_j0 ⟨[],[]⟩:=by kernel_rfl
theorem e27_j0:run tb C27 U27 J (R27 a b) 4096 k27_j0 ⟨[],[]⟩=yes2 true:=by kernel_rfl
theorem e27_j2:run tb C27 U27 J (R27 a b) 4096 k27_j2 (s27 a b i)=J k27_j1 (s27 a b i):=by kernel_rfl
theorem e27_j1:run tb C27 U27 J (R27 a b) 4096 k27_j1 (s27 a b i)=J k27_l0 (s27 a b (IntKind.i64.wrap (i+1))):=by kernel_rfl
theorem e27_l2:run tb C27 U27 J (R27 a b) 4096 k27_l2 (t27 a b i x y k)=
  if decide (k<x.length)=true then
   if 0≤k then if k<x.length then if 0≤k then if k<y.length then
    if (x.getD k.toNat default).6.length≤4611686018427387904∧(x.getD k.toNat default).7.length≤4611686018427387904 then
     if (!sameIns (x.getD k.toNat default) (y.getD k.toNat default))=true then yes2 false
     else J k27_l2 (t27 a b i x y (IntKind.i64.wrap (k+1)))
    else none
   else none else none else none else none
  else J k27_j2 (s27 a b i):=by kernel_rfl
end
theorem sameIns_eq (a b:Ev.Ins):sameIns a b=true↔a=b:=by
 unfold sameIns same3
 rw [Ins.ext_iff]
 simp [and_assoc]
def smallIns (c:Ev.Ins):Prop:=c.6.length≤4611686018427387904∧c.7.length≤4611686018427387904
theorem l27_2 (a b:Ev.Func) (i:Int) (x y:List Ev.Ins) (hl:x.length=y.length) (hb:x.length≤4611686018427387904) (hs: ∀c,c∈x→smallIns c): ∀(m k:Nat),k+m=x.length→
  ∃n0,∀n,walk tb C27 U27 (R27 a b) (n+n0) k27_l2 (t27 a b i x y k)=if decide (x.drop k=y.drop k)=true then walk tb C27 U27 (R27 a b) n k27_j2 (s27 a b i) else yes2 false
 |0,k,h=>by
  refine ⟨1,fun n=> ?_⟩
  rw [walk_succ,e27_l2,if_neg (by simp;omega),List.drop_eq_nil_of_le (by omega),List.drop_eq_nil_of_le (by omega)]
  rfl
 |m+1,k,h=>by
  have hx:k<x.length:=by omega
  have hy:k<y.length:=by omega
  have key:x.drop k=y.drop k↔x[k]=y[k]∧x.drop (k+1)=y.drop (k+1):=by
   rw [List.drop_eq_getElem_cons hx,List.drop_eq_getElem_cons hy,List.cons.injEq]
  have gx:x.getD (k:Int).toNat default=x[k]:=by simp [hx]
  have gy:y.getD (k:Int).toNat default=y[k]:=by simp [hy]
  have hsm:x[k].6.length≤4611686018427387904∧x[k].7.length≤4611686018427387904:=hs x[k] (List.getElem_mem hx)
  by_cases e:x[k]=y[k]
  ·obtain ⟨n0,hn⟩:=l27_2 a b i x y hl hb hs m (k+1) (by omega)
   refine ⟨n0+1,fun n=> ?_⟩
   rw [←Nat.add_assoc,walk_succ,e27_l2,if_pos (by simp;omega),if_pos (by omega),if_pos (by omega),if_pos (by omega),if_pos (by omega),gx,gy,if_pos hsm,if_neg (by simp [(sameIns_eq _ _).2 e]),wrap_up (by omega)]
   rw [show ((k:Int)+1)=((k+1:Nat):Int) by omega,hn,decide_eq_decide.2 (key.trans (and_iff_right e))]
  ·refine ⟨1,fun n=> ?_⟩
   have:sameIns x[k] y[k]=false:=by
    cases h:sameIns x[k] y[k] with
    |false=>rfl
    |true=>exact absurd ((sameIns_eq _ _).1 h) e
   rw [walk_succ,e27_l2,if_pos (by simp;omega),if_pos (by omega),if_pos (by omega),if_pos (by omega),if_pos (by omega),gx,gy,if_pos hsm,if_pos (by rw [this];rfl),decide_eq_false fun h=>e (key.1 h).1]
   rfl
def smallFun (a:Ev.Func):Prop:=a.3.length≤4611686018427387904∧a.5.length≤4611686018427387904∧ ∀c,c∈a.5→c.1.length≤4611686018427387904∧ ∀d,d∈c.1→smallIns d
theorem l27_0 (a b:Ev.Func) (hl:a.5.length=b.5.length) (hs:smallFun a): ∀(m i:Nat),i+m=a.5.length→ ∃n,walk tb C27 U27 (R27 a b) n k27_l0 (s27 a b i)=yes2 (decide (a.5.drop i=b.5.drop i))
 |0,i,h=>by
  refine ⟨2,?_⟩
  rw [walk_succ,e27_l0,if_neg (by simp;omega),walk_succ,e27_j0,List.drop_eq_nil_of_le (by omega),List.drop_eq_nil_of_le (by omega)]
  rfl
 |m+1,i,h=>by
  have ha:i<a.5.length:=by omega
  have hb:i<b.5.length:=by omega
  have hbound:=hs.2.1
  have key:a.5.drop i=b.5.drop i↔a.5[i].1=b.5[i].1∧a.5.drop (i+1)=b.5.drop (i+1):=by
   rw [List.drop_eq_getElem_cons ha,List.drop_eq_getElem_cons hb,List.cons.injEq,Block.ext_iff]
  have ga:a.5.getD (i:Int).toNat default=a.5[i]:=by simp [ha]
  have gb:b.5.getD (i:Int).toNat default=b.5[i]:=by simp [hb]
  obtain ⟨hs1,hs2⟩:=hs.2.2 _ (List.getElem_mem ha)
  by_cases el:a.5[i].1.length=b.5[i].1.length
  ·obtain ⟨n0,hn⟩:=l27_2 a b i a.5[i].1 b.5[i].1 el hs1 hs2 a.5[i].1.length 0 (by omega)
   obtain ⟨n1,hn1⟩:=l27_0 a b hl hs m (i+1) (by omega)
   refine ⟨n1+1+1+n0+1,?_⟩
   rw [walk_succ,e27_l0,if_pos (by simp;omega),if_pos (by omega),if_pos (by omega),if_pos (by omega),if_pos (by omega),ga,gb,if_neg (by simp [el])]
   have:=hn (n1+1+1)
   rw [show ((0:Nat):Int)=0 from rfl] at this
   rw [this]
   by_cases e:a.5[i].1=b.5[i].1
   ·rw [if_pos (by simp [e]),walk_succ,e27_j2,walk_succ,e27_j1,wrap_up (by omega),show ((i:Int)+1)=((i+1:Nat):Int) by omega,hn1,decide_eq_decide.2 (key.trans (and_iff_right e))]
   ·rw [if_neg (by simp [e]),decide_eq_false fun h=>e (key.1 h).1]
  ·refine ⟨1,?_⟩
   rw [walk_succ,e27_l0,if_pos (by simp;omega),if_pos (by omega),if_pos (by omega),if_pos (by omega),if_pos (by omega),ga,gb,if_pos (by simp;omega),decide_eq_false fun h=>el (by rw [(key.1 h).1])]
def sameFun (a b:Ev.Func):Bool:=a.1.toList == b.1.toList && a.2 == b.2 && a.4 == b.4 && same3 a.3 b.3 && decide (a.5=b.5)
theorem sameFun_ok (a b:Ev.Func) (hs:smallFun a):CallOk tb Try.prog 27 [funA a,funA b] (.v (.bool (sameFun a b))) [.dead, .dead]:=by
 have: ∃n,evalF tb C27 U27 n b27 Try.f27.results.toList .keep [funA a,funA b]=yes2 (sameFun a b):=by
  have hp:=hs.1
  by_cases hl:a.5.length=b.5.length
  ·obtain ⟨n,hn⟩:=l27_0 a b hl hs a.5.length 0 (by omega)
   refine ⟨n+1,(e27 _ a b).trans ?_⟩
   rw [show ((0:Nat):Int)=0 from rfl] at hn
   unfold sameFun
   have hn2:walk tb C27 U27 (resT tb C27 Try.f27.results.toList .keep [funA a,funA b]) n k27_l0 (s27 a b 0)=yes2 (decide (a.5=b.5)):=hn
   rw [if_pos hp,hn2,if_neg (show ¬((a.5.length:Int) != b.5.length)=true by simp [hl])]
   cases h1:a.1.toList == b.1.toList<;>cases h2:a.2 == b.2<;>cases h3:a.4 == b.4<;>cases h4:same3 a.3 b.3<;>simp [bne,h3]
  ·refine ⟨1,(e27 _ a b).trans ?_⟩
   have hd:decide (a.5=b.5)=false:=decide_eq_false fun h=>hl (by rw [h])
   unfold sameFun
   rw [if_pos hp,hd,if_pos (show ((a.5.length:Int) != b.5.length)=true by simp;omega)]
   cases h1:a.1.toList == b.1.toList<;>cases h2:a.2 == b.2<;>cases h3:a.4 == b.4<;>cases h4:same3 a.3 b.3<;>simp [bne,h3]
 obtain ⟨n,h⟩:=this
 refine fn_ok tbOk good (fun f mu S h=> ?_) mixed (fn:=Try.f27) (body:=b27) (by kernel_rfl) (by kernel_rfl) rfl rfl (by show 2≤85;omega) h
 unfold C27 at h
 simp only at h
 split at h
 ·cases h;exact ⟨in29,S29_ok⟩
 ·cases h;exact ⟨in78,S78_ok⟩
 ·cases h
end Go.Proofs.Ytggibjbcbicpjaa.Ev
namespace Go.Proofs.Ytggibjbcbicpjaa.Ev
open Go
set_option linter.unusedVariables false
set_option linter.unusedSimpArgs false
theorem okF.types {f:Ev.Func} (h:okF f):(typesOf f).length≤2000000:=by
 have h1:=h.1
 have h2:=tyB_le f.blocks
 have h3:=h.sz
 simp only [typesOf,List.length_append,List.length_cons,List.length_nil]
 omega
noncomputable def b31:Code:=bodyOf Try.f31
noncomputable def C31:Cfg Ty:=⟨fun
 |52=>some ([],S52)
 |_=>none,fun _=>false,7,0⟩
def U31:Cuts:=⟨fun _=>none,fun _=>none,fun _=>none⟩
def a31 (f:Func):List (AV Ty):=[.agg [.v (.string f.name), .v (.bool f.out), .sl false (3:Nat) f.params, .v (.int .i64 f.result), .sl false (44:Nat) f.blocks]]
noncomputable def R31 (f:Func):St Ty→EvR:=resT tb C31 Try.f31.results.toList .keep (a31 f)
theorem e31 (J f):run tb C31 U31 J (R31 f) 4096 [.code b31] ⟨slotsA (a31 f) 0 0,heapA (a31 f)⟩=
 if okF (Func.mk f.name f.out f.params f.result f.blocks) then
 some (.v (.int .i64 (IntKind.i64.wrap ((↑(typesOf (Func.mk f.name f.out f.params f.result f.blocks)).length:Int)-1))),[.dead])
 else none:=by kernel_rfl

theorem in31:Entered 31:=⟨Try.f31,b31,by kernel_rfl,by kernel_rfl,by kernel_rfl⟩
theorem fn31 (f:Ev.Func) {res:AV Ty} {outs:List (AV Ty)} (h:Ends C31 U31 (R31 f) [.code b31] ⟨slotsA (a31 f) 0 0,heapA (a31 f)⟩ (some (res,outs))):CallOk tb Try.prog 31 (a31 f) res outs:=by
 obtain ⟨n0,hn⟩:=h
 exact fn_ok (C:=C31) (U:=U31) (n:=0+n0) (q:= .keep) tbOk good (fun f mu S h=>by
  unfold C31 at h
  simp only at h
  split at h
  ·cases h;exact ⟨in52,S52_ok⟩
  ·cases h) mixed (fn:=Try.f31) (body:=b31) (by kernel_rfl) (by kernel_rfl) rfl rfl (by show 1≤7;omega) (hn 0)
theorem values_ok (f:Ev.Func) (h:okF f):CallOk tb Try.prog 31 (a31 f) (.v (.int .i64 ((typesOf f).length-1))) [.dead]:=by
 refine fn31 f (.step fun J=> ?_)
 have:=h.types
 have e:(⟨f.name,f.out,f.params,f.result,f.blocks⟩:Ev.Func)=f:=rfl
 rw [e31,e,if_pos h,wrap_up (by omega)]
noncomputable def S31:List (AV Ty)→T (AV Ty×List (AV Ty))
 |[.agg x]=>match cod33.dec false x with
  |some f=> .ite (okF f) (okF.dec f) (.ret (.v (.int .i64 ((typesOf f).length-1)),[.dead])) .fail
  |none=> .fail
 |_=> .fail
theorem S31_ok (l:List (AV Ty)) (r:AV Ty) (outs:List (AV Ty)) (h:(S31 l).val=some (r,outs)):CallOk tb Try.prog 31 l r outs:=by
 unfold S31 at h
 split at h
 ·rename_i x
  split at h
  ·rename_i f e1
   rcases ite_val h with ⟨e,h⟩|⟨_,h⟩
   ·cases h
    have h1:=cod33_ok.dec false x f e1
    subst h1
    exact values_ok f e
   ·cases h
  ·cases h
 ·cases h
noncomputable def b21:Code:=bodyOf Try.f21
noncomputable def C21:Cfg Ty:=⟨fun
 |30=>some ([],S30)
 |_=>none,fun _=>false,7,0⟩
def U21:Cuts:=⟨fun _=>none,fun _=>none,fun _=>none⟩
def a21 (f:Func):List (AV Ty):=[.agg [.v (.string f.name), .v (.bool f.out), .sl false (3:Nat) f.params, .v (.int .i64 f.result), .sl false (44:Nat) f.blocks]]
noncomputable def R21 (f:Func):St Ty→EvR:=resT tb C21 Try.f21.results.toList .keep (a21 f)
theorem e21 (J f):run tb C21 U21 J (R21 f) 4096 [.code b21] ⟨slotsA (a21 f) 0 0,heapA (a21 f)⟩=
 if okF (Func.mk f.name f.out f.params f.result f.blocks) then
 some (.v (.int .i64 (IntKind.i64.wrap ((↑(typesOf (Func.mk f.name f.out f.params f.result f.blocks)).length:Int)-1))),[.dead])
 else none:=by kernel_rfl

theorem in21:Entered 21:=⟨Try.f21,b21,by kernel_rfl,by kernel_rfl,by kernel_rfl⟩
theorem fn21 (f:Ev.Func) {res:AV Ty} {outs:List (AV Ty)} (h:Ends C21 U21 (R21 f) [.code b21] ⟨slotsA (a21 f) 0 0,heapA (a21 f)⟩ (some (res,outs))):CallOk tb Try.prog 21 (a21 f) res outs:=by
 obtain ⟨n0,hn⟩:=h
 exact fn_ok (C:=C21) (U:=U21) (n:=0+n0) (q:= .keep) tbOk good (fun f mu S h=>by
  unfold C21 at h
  simp only at h
  split at h
  ·cases h;exact ⟨in30,S30_ok⟩
  ·cases h) mixed (fn:=Try.f21) (body:=b21) (by kernel_rfl) (by kernel_rfl) rfl rfl (by show 1≤7;omega) (hn 0)
theorem rvalues_ok (f:Ev.Func) (h:okF f):CallOk tb Try.prog 21 (a21 f) (.v (.int .i64 ((typesOf f).length-1))) [.dead]:=by
 refine fn21 f (.step fun J=> ?_)
 have:=h.types
 have e:(⟨f.name,f.out,f.params,f.result,f.blocks⟩:Ev.Func)=f:=rfl
 rw [e21,e,if_pos h,wrap_up (by omega)]
noncomputable def S21:List (AV Ty)→T (AV Ty×List (AV Ty))
 |[.agg x]=>match cod33.dec false x with
  |some f=> .ite (okF f) (okF.dec f) (.ret (.v (.int .i64 ((typesOf f).length-1)),[.dead])) .fail
  |none=> .fail
 |_=> .fail
theorem S21_ok (l:List (AV Ty)) (r:AV Ty) (outs:List (AV Ty)) (h:(S21 l).val=some (r,outs)):CallOk tb Try.prog 21 l r outs:=by
 unfold S21 at h
 split at h
 ·rename_i x
  split at h
  ·rename_i f e1
   rcases ite_val h with ⟨e,h⟩|⟨_,h⟩
   ·cases h
    have h1:=cod33_ok.dec false x f e1
    subst h1
    exact rvalues_ok f e
   ·cases h
  ·cases h
 ·cases h
theorem okF.small {f:Ev.Func} (h:okF f):smallFun f:=by
 have h1:=h.1
 have h2:=h.2.1
 refine ⟨by omega,by omega,fun b hb=> ?_⟩
 have h3:=h.2.2 b hb
 refine ⟨by have:=h3.1;omega,fun i hi=> ?_⟩
 have:=h3.2 i hi
 unfold okIns at this
 exact ⟨by omega,by omega⟩
theorem in27:Entered 27:=⟨Try.f27,b27,by kernel_rfl,by kernel_rfl,by kernel_rfl⟩
def S27:List (AV Ty)→T (AV Ty×List (AV Ty))
 |[.agg x, .agg y]=>match cod33.dec false x,cod33.dec false y with
  |some a,some b=> .ite (okF a) (okF.dec a) (.ret (.v (.bool (sameFun a b)),[.dead, .dead])) .fail
  |_,_=> .fail
 |_=> .fail
theorem S27_ok (l:List (AV Ty)) (r:AV Ty) (outs:List (AV Ty)) (h:(S27 l).val=some (r,outs)):CallOk tb Try.prog 27 l r outs:=by
 unfold S27 at h
 split at h
 ·rename_i x y
  split at h
  ·rename_i a b e1 e2
   rcases ite_val h with ⟨e,h⟩|⟨_,h⟩
   ·cases h
    have h1:=cod33_ok.dec false x a e1
    have h2:=cod33_ok.dec false y b e2
    subst h1 h2
    exact sameFun_ok a b (okF.small e)
   ·cases h
  ·cases h
 ·cases h
end Go.Proofs.Ytggibjbcbicpjaa.Ev
namespace Go.Proofs.Ytggibjbcbicpjaa.Ev
open Go
set_option linter.unusedVariables false
set_option linter.unusedSimpArgs false
noncomputable def b24:Code:=bodyOf Try.f24
noncomputable def C24:Cfg Ty:=⟨fun
 |26=>some ([],S26)
 |31=>some ([],S31)
 |51=>some ([],S51)
 |_=>none,fun
 |1=>true
 |2=>true
 |3=>true
 |4=>true
 |6=>true
 |8=>true
 |10=>true
 |_=>false,73,0⟩
def U24:Cuts:=⟨fun _=>none,fun _=>none,fun _=>none⟩
def a24:List (AV Ty):=[]
noncomputable def R24:St Ty→EvR:=resT tb C24 Try.f24.results.toList .keep (a24)
theorem e24 J:run tb C24 U24 J R24 4096 [.code b24] ⟨slotsA a24 0 0,heapA (a24)⟩=
 some (.v (.bool ([if 1≤9∧9≤(↑[1,1].length:Int) then 9 else (↑([1,1].length+1):Int)].getD (0+Int.toNat 0) 0 == 3)),[]):=by kernel_rfl

theorem in24:Entered 24:=⟨Try.f24,b24,by kernel_rfl,by kernel_rfl,by kernel_rfl⟩
theorem fn24 {res:AV Ty} {outs:List (AV Ty)} (h:Ends C24 U24 (R24) [.code b24] ⟨slotsA (a24) 0 0,heapA (a24)⟩ (some (res,outs))):CallOk tb Try.prog 24 (a24) res outs:=by
 obtain ⟨n0,hn⟩:=h
 exact fn_ok (C:=C24) (U:=U24) (n:=0+n0) (q:= .keep) tbOk good (fun f mu S h=>by
  unfold C24 at h
  simp only at h
  split at h
  ·cases h;exact ⟨in26,S26_ok⟩
  ·cases h;exact ⟨in31,S31_ok⟩
  ·cases h;exact ⟨in51,S51_ok⟩
  ·cases h) mixed (fn:=Try.f24) (body:=b24) (by kernel_rfl) (by kernel_rfl) rfl rfl (by show 0≤73;omega) (hn 0)
theorem first_ok:CallOk tb Try.prog 24 a24 (.v (.bool true)) []:=by
 refine fn24 (.step fun J=> ?_)
 rw [e24]
 rfl
def S24:List (AV Ty)→T (AV Ty×List (AV Ty))
 |[]=> .ret (.v (.bool true),[])
 |_=> .fail
theorem S24_ok (l:List (AV Ty)) (r:AV Ty) (outs:List (AV Ty)) (h:(S24 l).val=some (r,outs)):CallOk tb Try.prog 24 l r outs:=by
 unfold S24 at h
 split at h
 ·cases h;exact first_ok
 ·cases h
end Go.Proofs.Ytggibjbcbicpjaa.Ev
namespace Go.Proofs.Ytggibjbcbicpjaa.Ev
open Go
set_option linter.unusedVariables false
set_option linter.unusedSimpArgs false
theorem keyEq_key (a:Int) (k:Value):keyEq (key a) k=true↔ ∃q,k= .int q a:=by
 unfold key keyEq
 cases k with
 |int q b=>
  simp only [decide_eq_true_eq]
  constructor
  ·rintro rfl;exact ⟨q,rfl⟩
  ·rintro ⟨q',e⟩;injection e with _ e;exact e.symm
 |_=>simp
theorem mget_mput (l:List (Value×Int)) (a b v:Int):mget (mput l (key a) v) (key b)=if b=a then some v else mget l (key b):=by
 induction l with
 |nil=>
  by_cases h:b=a
  ·subst h;rw [if_pos rfl];unfold mput mget;rw [(keyEq_key b (key b)).2 ⟨_,rfl⟩]
  ·rw [if_neg h]
   unfold mput mget
   have:keyEq (key b) (key a)=false:=by
    cases e:keyEq (key b) (key a) with
    |false=>rfl
    |true=>obtain ⟨q,e⟩:=(keyEq_key b (key a)).1 e;unfold key at e;injection e with _ e;exact absurd e.symm h
   rw [this]
   rfl
 |cons x l ih=>
  obtain ⟨k,w⟩:=x
  cases e:keyEq (key a) k with
  |true=>
   obtain ⟨q,rfl⟩:=(keyEq_key a k).1 e
   simp only [mput,e]
   by_cases h:b=a
   ·subst h
    rw [if_pos rfl]
    unfold mget
    rw [e]
   ·rw [if_neg h]
    have:keyEq (key b) (.int q a)=false:=by
     cases e:keyEq (key b) (.int q a) with
     |false=>rfl
     |true=>obtain ⟨q',e⟩:=(keyEq_key b _).1 e;injection e with _ e;exact absurd e.symm h
    simp only [mget,this]
  |false=>
   simp only [mput,e]
   cases e2:keyEq (key b) k with
   |true=>
    have h:b≠a:=by rintro rfl;rw [e] at e2;cases e2
    rw [if_neg h]
    simp only [mget,e2]
   |false=>
    simp only [mget,e2]
    exact ih
end Go.Proofs.Ytggibjbcbicpjaa.Ev
namespace Go.Proofs.Ytggibjbcbicpjaa.Ev
open Go
set_option linter.unusedVariables false
set_option linter.unusedSimpArgs false
noncomputable def b79:Code:=bodyOf Try.f79
noncomputable def C79:Cfg Ty:=⟨fun _=>none,fun
 |1=>true
 |2=>true
 |5=>true
 |9=>true
 |300001=>true
 |400011=>true
 |_=>false,12,0⟩
def U79:Cuts:=⟨fun _=>none,fun _=>none,fun _=>none⟩
def a79 (i:Ins):List (AV Ty):=[.agg [.v (.int .i64 i.op), .v (.int .i64 i.type_), .v (.int .i64 i.to_), .v (.int .i64 i.sym_), .v (.int .i64 i.num), .sl false (3:Nat) i.args, .sl false (3:Nat) i.into]]
noncomputable def R79 (i:Ins):St Ty→EvR:=resT tb C79 Try.f79.results.toList .keep (a79 i)
theorem e79 (J i):run tb C79 U79 J (R79 i) 4096 [.code b79] ⟨slotsA (a79 i) 0 0,heapA (a79 i)⟩=
 if i.args.length+1≤549755813888∧(i.args.length+1)*8≤549755813888 then
 if i.into.length+1≤549755813888∧(i.into.length+1)*8≤549755813888 then
 some (.agg [.v (.int .i64 i.op), .v (.int .i64 i.type_), .v (.int .i64 i.to_), .v (.int .i64 i.sym_), .v (.int .i64 i.num), .sl true 3 i.args, .sl true 3 i.into],[.dead])
 else none
 else none:=by kernel_rfl

theorem in79:Entered 79:=⟨Try.f79,b79,by kernel_rfl,by kernel_rfl,by kernel_rfl⟩
theorem fn79 (i:Ev.Ins) {res:AV Ty} {outs:List (AV Ty)} (h:Ends C79 U79 (R79 i) [.code b79] ⟨slotsA (a79 i) 0 0,heapA (a79 i)⟩ (some (res,outs))):CallOk tb Try.prog 79 (a79 i) res outs:=by
 obtain ⟨n0,hn⟩:=h
 exact fn_ok (C:=C79) (U:=U79) (n:=0+n0) (q:= .keep) tbOk good (fun f mu S h=>by cases h) mixed (fn:=Try.f79) (body:=b79) (by kernel_rfl) (by kernel_rfl) rfl rfl (by show 1≤12;omega) (hn 0)
theorem copyIns2_ok (i:Ev.Ins) (h:okIns i):CallOk tb Try.prog 79 (a79 i) (insS true i) [.dead]:=by
 obtain ⟨h1,h2⟩:=h
 refine fn79 i (.step fun J=> ?_)
 rw [e79]
 simp (disch:=first|omega|assumption|(rw [dT];omega)|(rw [dF];omega)) only [↓iP,↓iN,iT,iF,wrap_up,tN,Nat.zero_add]
 rfl
def S79:List (AV Ty)→T (AV Ty×List (AV Ty))
 |[.agg x]=>match cod46.dec false x with
  |some i=> .ite (okIns i) (okIns.dec i) (.ret (.agg [.v (.int .i64 i.op), .v (.int .i64 i.type_), .v (.int .i64 i.to_), .v (.int .i64 i.sym_), .v (.int .i64 i.num), .sl true 3 i.args, .sl true 3 i.into],[.dead])) .fail
  |none=> .fail
 |_=> .fail
theorem S79_ok (l:List (AV Ty)) (r:AV Ty) (outs:List (AV Ty)) (h:(S79 l).val=some (r,outs)):CallOk tb Try.prog 79 l r outs:=by
 unfold S79 at h
 split at h
 ·rename_i x
  split at h
  ·rename_i i e1
   rcases ite_val h with ⟨e,h⟩|⟨_,h⟩
   ·cases h
    have h1:=cod46_ok.dec false x i e1
    subst h1
    exact copyIns2_ok i e
   ·cases h
  ·cases h
 ·cases h
end Go.Proofs.Ytggibjbcbicpjaa.Ev
