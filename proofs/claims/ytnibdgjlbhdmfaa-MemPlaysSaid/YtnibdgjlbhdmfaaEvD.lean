/- Operations that leave memory alone: what the evaluator makes of them, and that the machine does the same. -/
import Derived.Test.YtnibdgjlbhdmfaaEvC
namespace Go.Proofs.Ytnibdgjlbhdmfaa.Ev
open Go
set_option linter.unusedVariables false
set_option linter.unusedSimpArgs false
section
variable {Ty : Nat → Type} (E : Tb Ty)
/-- How a part of a row is seen: u stands for the whole row of n elements of z cells. -/
def ViewOk (z n : Nat) (u : Value) : Option (Nat × Nat) → Bool → Value → Prop
  | none, full, v => v = u ∧ full = false
  | some (o, k), full, v => o + k ≤ n ∧ ((k = 0 ∧ ∃ A, v = .slice A 0 0) ∨ ∃ b off c c', u = .slice (some ⟨b, off, none⟩) n c ∧ v = .slice (some ⟨b, off + o * z, none⟩) k c' ∧ k ≤ c' ∧ o + c' ≤ c ∧ (full = true → c' = k))
inductive VRep (F : Set2) (w : World) (hp : Heap Ty) (vals : Nat → Value) : Value → AV Ty → Prop
  | rep (v a) : Rep E F w v a → VRep F w hp vals v a
  | ref (r p vw full v R u row) : root hp r = some R → Loc E w R.m (vals r) R.t R.xs p u row → ViewOk (szOf E row.t) row.xs.length u vw full v → VRep F w hp vals v (.ref r p vw full)
  | ptr (r p i o R b off c row) : root hp r = some R → Loc E w R.m (vals r) R.t R.xs p (.slice (some ⟨b, off, none⟩) row.xs.length c) row → i < row.xs.length →
      VRep F w hp vals (.pointer (some ⟨b, off + (i * szOf E row.t + o), none⟩)) (.ptr r p i o)
  | agg (vs : Array Value) (cs : List (AV Ty)) : vs.size = cs.length → (∀ (i : Nat) v a, vs[i]? = some v → cs[i]? = some a → VRep F w hp vals v a) → VRep F w hp vals (.agg vs) (.agg cs)
  | tup (vs : Array Value) (cs : List (AV Ty)) : vs.size = cs.length → (∀ (i : Nat) v a, vs[i]? = some v → cs[i]? = some a → VRep F w hp vals v a) → VRep F w hp vals (.tuple vs) (.tup cs)
  | ext (v r p t xs) : VRep F w hp vals v (.ext r p t xs)
  | dead (v) : VRep F w hp vals v .dead
structure HRel (F : Set2) (w : World) (hp : Heap Ty) (vals : Nat → Value) (sets : Nat → Set2) : Prop where
  own : ∀ r R, root hp r = some R → Own E F w R.m (vals r) R.t R.xs (sets r)
  dj : ∀ r r' R R', root hp r = some R → root hp r' = some R' → ∀ b j, sets r b j → sets r' b j → r = r'
def lit : Value → AV Ty
  | .agg cs => .agg (cs.toList.map .v)
  | x => .v x
def opA (fr : List (Nat × AV Ty)) : Operand → AV Ty
  | .tmp t => look fr t
  | .const x => lit x
  | .func f => .v (.func (.func f) #[] #[])
  | .global _ => .dead
def bitsI (op : BinOp) (k : IntKind) (a b : Int) : Int := match op with
  | .and => k.wrap ((BitVec.ofInt k.bits a &&& BitVec.ofInt k.bits b).toNat)
  | .or => k.wrap ((BitVec.ofInt k.bits a ||| BitVec.ofInt k.bits b).toNat)
  | .xor => k.wrap ((BitVec.ofInt k.bits a ^^^ BitVec.ofInt k.bits b).toNat)
  | .andNot => k.wrap ((BitVec.ofInt k.bits a &&& ~~~(BitVec.ofInt k.bits b)).toNat)
  | _ => 0
def binI (op : BinOp) (k : IntKind) (a b : Int) : T Value := match op with
  | .add => .ret (.int k (k.wrap (a + b)))
  | .sub => .ret (.int k (k.wrap (a - b)))
  | .mul => .ret (.int k (k.wrap (a * b)))
  | .quo => .ite (b = 0) inferInstance .fail (.ret (.int k (k.wrap (a.tdiv b))))
  | .rem => .ite (b = 0) inferInstance .fail (.ret (.int k (a.tmod b)))
  | .and => .ret (.int k (bitsI .and k a b))
  | .or => .ret (.int k (bitsI .or k a b))
  | .xor => .ret (.int k (bitsI .xor k a b))
  | .andNot => .ret (.int k (bitsI .andNot k a b))
  | .eql => .ret (.bool (a == b))
  | .neq => .ret (.bool (a != b))
  | .lss => .ret (.bool (decide (a < b)))
  | .leq => .ret (.bool (decide (a ≤ b)))
  | .gtr => .ret (.bool (decide (a > b)))
  | .geq => .ret (.bool (decide (a ≥ b)))
  | _ => .fail
def shI (op : BinOp) (k : IntKind) (a b : Int) : T Value := match op with
  | .shl => .ite (b < 0) inferInstance .fail (.ret (.int k (k.wrap (a * 2 ^ (min b.toNat k.bits)))))
  | .shr => .ite (b < 0) inferInstance .fail (.ret (.int k (a.fdiv (2 ^ (min b.toNat k.bits)))))
  | _ => .fail
def binS (op : BinOp) (a b : ByteArray) : T Value := match op with
  | .add => .ite (((a.size + b.size : Nat) : Int) > IntKind.i64.max) inferInstance .fail (.ret (.string (a ++ b)))
  | .eql => .ret (.bool (a.toList == b.toList))
  | .neq => .ret (.bool (!(a.toList == b.toList)))
  | _ => .fail
def binV (op : BinOp) : Value → Value → T Value
  | .int k a, .int k' b => match op with
    | .shl => shI .shl k a b
    | .shr => shI .shr k a b
    | op => .ite (k = k') inferInstance (binI op k a b) .fail
  | .string a, .string b => binS op a b
  | _, _ => .fail
def isPtr : AV Ty → Bool
  | .ptr _ _ _ _ => true
  | .rp _ _ _ _ => true
  | _ => false
/-- Equality of bools goes by the type. -/
def binA (op : BinOp) (t : Nat) (x y : AV Ty) : T (AV Ty) := match x, y with
  | .v (.bool a), .v (.bool b) => match E.ti t with
    | some ⟨_, _, .bool⟩ => match op with
      | .eql => .ret (.v (.bool (a == b)))
      | .neq => .ret (.v (.bool (!(a == b))))
      | _ => .fail
    | _ => .fail
  | .v (.slice A n c), .v (.slice none 0 0) => match E.ti t with
    | some ⟨_, _, .slice _⟩ => match op with
      | .eql => .ret (.v (.bool A.isNone))
      | .neq => .ret (.v (.bool (!A.isNone)))
      | _ => .fail
    | _ => .fail
  | .sl false _ xs, .v (.slice none 0 0) => match E.ti t with
    | some ⟨_, _, .slice _⟩ => match op with
      | .eql => .ite (0 < xs.length) inferInstance (.ret (.v (.bool false))) .fail
      | .neq => .ite (0 < xs.length) inferInstance (.ret (.v (.bool true))) .fail
      | _ => .fail
    | _ => .fail
  | .v a, .v b => (binV op a b).bind fun v => .ret (.v v)
  | x, .v (.pointer none) => match isPtr x, E.ti t with
    | true, some ⟨_, _, .ptr _⟩ => match op with
      | .eql => .ret (.v (.bool false))
      | .neq => .ret (.v (.bool true))
      | _ => .fail
    | _, _ => .fail
  | _, _ => .fail
def unA (op : UnOp) (x : AV Ty) : T (AV Ty) := match op, x with
  | .neg, .v (.int k n) => .ret (.v (.int k (k.wrap (0 - n))))
  | .xor, .v (.int k n) => .ret (.v (.int k (bitsI .xor k (if k.signed then -1 else k.max) n)))
  | .not, .v (.bool b) => .ret (.v (.bool (!b)))
  | _, _ => .fail
theorem run_ok {P : Program} {α : Type} (a : α) (w : World) : (Sem.pure a).run P w = .ok a w := rfl
variable {E}
theorem binI_ok {P : Program} {op : BinOp} {t t' : TypeId} {x y : Operand} {k : IntKind} {a b : Int} {v : Value} (ρ : Operand → Value) (hx : ρ x = .int k a) (hy : ρ y = .int k b) (h : (binI op k a b).val = some v) (w : World) (o : Oper) (ho : o.op = .binOp op t x y t') :
    (execOp ρ o).run P w = .ok (.value v) w := by
  obtain ⟨d, _, ty, pos, af, gd⟩ := o
  subst ho
  unfold execOp
  simp only [hx, hy]
  cases op <;> simp only [binI, T.val, reduceCtorEq] at h
  all_goals first
    | (cases h; done)
    | (cases h; simp [eqGuard, binOp, Op.intArith, Op.intBits, Op.intCmp, bitsI, Bind.bind, Sem.bind, Pure.pure, Sem.run]; done)
    | (split at h
       · cases h
       · rename_i hb
         cases h
         simp [eqGuard, binOp, Op.intDiv, hb, Bind.bind, Sem.bind, Pure.pure, Sem.run])
theorem shI_ok {P : Program} {op : BinOp} {t t' : TypeId} {x y : Operand} {k k' : IntKind} {a b : Int} {v : Value} (ρ : Operand → Value) (hx : ρ x = .int k a) (hy : ρ y = .int k' b) (h : (shI op k a b).val = some v) (w : World) (o : Oper) (ho : o.op = .binOp op t x y t') :
    (execOp ρ o).run P w = .ok (.value v) w := by
  obtain ⟨d, _, ty, pos, af, gd⟩ := o
  subst ho
  unfold execOp
  simp only [hx, hy]
  cases op <;> simp only [shI, T.val, reduceCtorEq] at h
  all_goals
    split at h
    · cases h
    · rename_i hb
      cases h
      simp [eqGuard, binOp, Op.shift, hb, Bind.bind, Sem.bind, Pure.pure, Sem.run]
theorem binS_ok {P : Program} {op : BinOp} {t t' : TypeId} {x y : Operand} {a b : ByteArray} {v : Value} (ρ : Operand → Value) (hx : ρ x = .string a) (hy : ρ y = .string b) (h : (binS op a b).val = some v) (w : World) (o : Oper) (ho : o.op = .binOp op t x y t') :
    (execOp ρ o).run P w = .ok (.value v) w := by
  obtain ⟨d, _, ty, pos, af, gd⟩ := o
  subst ho
  unfold execOp
  simp only [hx, hy]
  cases op <;> simp only [binS, T.val, reduceCtorEq] at h
  all_goals first
    | (cases h; simp [eqGuard, binOp, Op.stringOp, Bind.bind, Sem.bind, Pure.pure, Sem.run]; done)
    | (split at h
       · cases h
       · rename_i hb
         cases h
         simp [eqGuard, binOp, Op.stringOp, Bind.bind, Sem.bind, Pure.pure, Sem.run]
         simp at hb
         rw [if_neg (by omega)]
         rfl)
theorem binV_ok {P : Program} {op : BinOp} {t t' : TypeId} {x y : Operand} {a b v : Value} (ρ : Operand → Value) (hx : ρ x = a) (hy : ρ y = b) (h : (binV op a b).val = some v) (w : World) (o : Oper) (ho : o.op = .binOp op t x y t') :
    (execOp ρ o).run P w = .ok (.value v) w := by
  unfold binV at h
  split at h
  · split at h
    · exact shI_ok ρ hx hy h w o ho
    · exact shI_ok ρ hx hy h w o ho
    · simp only [T.val] at h
      split at h
      · rename_i e; subst e; exact binI_ok ρ hx hy h w o ho
      · cases h
  · exact binS_ok ρ hx hy h w o ho
  · cases h
def DOk (Z : TypeId → Nat → Prop) : D → TypeDesc → Prop
  | .int k, .int k' => k = k'
  | .bool, .bool => True
  | .str, .string => True
  | .slice e, .slice e' => e = e'
  | .struct fs, .struct gs => gs.size = fs.length ∧ ∀ (i : Nat) (p : Nat × Nat), fs[i]? = some p → ∃ f : Field, gs[i]? = some f ∧ f.offset = p.1 ∧ f.type = p.2 ∧ ∃ z, Z p.2 z ∧ z ≠ 0
  | .arr n e, .array n' e' => n = n' ∧ e = e'
  | .ptr e, .pointer e' => e = e'
  | .other, _ => True
  | _, _ => False
variable (E) in
structure TbOk (P : Program) : Prop where
  und : ∀ t i, E.ti t = some i → ∃ d, P.underlying t = some d ∧ DOk (fun t z => ∃ j, P.info? t = some j ∧ j.size = z) i.d d
  info : ∀ t i, E.ti t = some i → ∃ j, P.info? t = some j ∧ j.size = i.sz ∧ j.bytes = i.bytes
  zero : ∀ t i, E.ti t = some i → E.has t = true → szOf E t = i.sz ∧ ∃ j z, P.info? t = some j ∧ j.zero = some z ∧ z.cells.size = i.sz ∧
    ∀ m (o : Nat) a, ((E.cod t).enc m (E.cod t).zero)[o]? = some a → ∃ v, z.cells[o]? = some v ∧ ((a = .v v ∧ oneC v = true) ∨ ∃ q t', a = .sl q t' [] ∧ v = .slice none 0 0)
theorem run_underlying {P : Program} {t : TypeId} {d : TypeDesc} (h : P.underlying t = some d) {α : Type} (k : TypeDesc → Sem α) (w : World) : ((underlying t).bind k).run P w = (k d).run P w := by
  simp [underlying, program, Bind.bind, Sem.bind, Sem.run, h, Pure.pure]
theorem run_sizeOf {P : Program} {t : TypeId} {j : TypeInfo} (h : P.info? t = some j) {α : Type} (k : Nat → Sem α) (w : World) : ((sizeOf t).bind k).run P w = (k j.size).run P w := by
  simp [sizeOf, typeInfo, program, Bind.bind, Sem.bind, Sem.run, h, Pure.pure]
theorem addr_add (b off n : Nat) : (⟨b, off, none⟩ : Addr).add n = ⟨b, off + n, none⟩ := by
  unfold Addr.add
  split
  · rename_i h; subst h; rfl
  · rfl
theorem fieldAt_ok {P : Program} (K : TbOk E P) {s : Nat} {i : TI} {fs : List (Nat × Nat)} (hi : E.ti s = some i) (hd : i.d = .struct fs) {f : Nat} {p : Nat × Nat} (hf : fs[f]? = some p) (b off : Nat) (w : World) :
    (Instr.fieldAt s (.pointer (some ⟨b, off, none⟩)) f).run P w = .ok (.pointer (some ⟨b, off + p.1, none⟩)) w := by
  obtain ⟨d, h1, h2⟩ := K.und s i hi
  rw [hd] at h2
  unfold DOk at h2
  split at h2 <;> try contradiction
  rename_i gs fs' e
  cases e
  obtain ⟨fl, h3, h4, h5, z, ⟨j, h6, h7⟩, h8⟩ := h2.2 f p hf
  rw [← h5] at h6
  subst h7
  simp [Instr.fieldAt, fieldPlace, underlying, sizeOf, typeInfo, program, Instr.sureAddr, Bind.bind, Sem.bind, Sem.run, Pure.pure, h1, h3, h6, h8, h4, addr_add]
theorem okB {P : Program} {ρ : Operand → Value} {o : Oper} {v : Value} {w w' : World} {s : Sem Value} (he : execOp ρ o = (do pure (.value (← s)))) (h : s.run P w = .ok v w') : (execOp ρ o).run P w = .ok (.value v) w' := by
  rw [he, Sem.run_bind, h]
  rfl
theorem indexAt_ok {P : Program} (K : TbOk E P) {t e : Nat} {i ie : TI} (hi : E.ti t = some i) (hd : i.d = .slice e) (he : E.ti e = some ie) (b off n c : Nat) (k : IntKind) (q : Int) (h0 : 0 ≤ q) (hn : q < n) (w : World) :
    (Instr.indexAt t (.slice (some ⟨b, off, none⟩) n c) (.int k q)).run P w = .ok (.pointer (some ⟨b, off + q.toNat * ie.sz, none⟩)) w := by
  obtain ⟨d, h1, h2⟩ := K.und t i hi
  rw [hd] at h2
  unfold DOk at h2
  split at h2 <;> try contradiction
  rename_i e1 e2 e3
  cases e3
  subst h2
  obtain ⟨j, h3, h4, _⟩ := K.info _ _ he
  simp [Instr.indexAt, asIntOf, underlying, sizeOf, typeInfo, program, Bind.bind, Sem.bind, Sem.run, Pure.pure, h1, h3, h4, h0, hn, addr_add]
end
end Go.Proofs.Ytnibdgjlbhdmfaa.Ev
