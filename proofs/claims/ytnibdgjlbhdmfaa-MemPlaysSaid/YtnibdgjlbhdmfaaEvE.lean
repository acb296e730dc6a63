/- The evaluator's operations that leave memory alone. -/
import Derived.Test.YtnibdgjlbhdmfaaEvD
namespace Go.Proofs.Ytnibdgjlbhdmfaa.Ev
open Go
set_option linter.unusedVariables false
set_option linter.unusedSimpArgs false
section
variable {Ty : Nat → Type} (E : Tb Ty)
def btI (s : ByteArray) (q : Int) : Int := if h : q.toNat < s.size then ((s[q.toNat]'h).toNat : Int) else 0
def seenT (r : Nat) (p : Path) (i o : Nat) : AV Ty → T (AV Ty)
  | .v x => .ret (.v x)
  | .sl true t ys => .ret (.ref r (p ++ [(i, o)]) none false)
  | .sl false t ys => .ret (.sl false t ys)
  | _ => .fail
def cellsT (r : Nat) (p : Path) (m : Bool) (t : Nat) (xs : List (Ty t)) (i : Nat) : Nat → Nat → T (List (AV Ty))
  | _, 0 => .ret []
  | o, n + 1 => (seenT r p i o (cellOf E m t xs i o)).bind fun a => (cellsT r p m t xs i (o + 1) n).bind fun l => .ret (a :: l)
def isAggD : D → Bool
  | .struct _ => true
  | .arr _ _ => true
  | _ => false
def loadT (hp : Heap Ty) (i : TI) : AV Ty → T (AV Ty)
  | .ptr r p k o => match rowAt E hp r p with
    | some (m, row) => match isAggD i.d with
      | true => (cellsT E r p m row.t row.xs k o i.sz).bind fun l => .ret (.agg l)
      | false => seenT r p k o (cellOf E m row.t row.xs k o)
    | none => .fail
  | .rp t xs k o => match isAggD i.d with
      | true => (cellsT E 0 [] false t xs k o i.sz).bind fun l => .ret (.agg l)
      | false => seenT 0 [] k o (cellOf E false t xs k o)
  | _ => .fail
def intA : AV Ty → Option Int
  | .v (.int _ n) => some n
  | _ => none
/-- The bounds of a cut: from, to. -/
def cutT (n : Nat) (lo hi mx : Option (AV Ty)) (k : Nat → Nat → Bool → T (AV Ty)) : T (AV Ty) :=
  match (match lo with | none => some 0 | some a => intA a), (match hi with | none => some (n : Int) | some a => intA a) with
  | some l, some h => match mx with
    | none => .ite (0 ≤ l ∧ l ≤ h ∧ h ≤ n) inferInstance (k l.toNat h.toNat false) .fail
    | some a => match intA a, hi with
      | some m, some _ => .ite (0 ≤ l ∧ l ≤ h ∧ h ≤ n ∧ m = h) inferInstance (k l.toNat h.toNat true) .fail
      | _, _ => .fail
  | _, _ => .fail
def indexT (hp : Heap Ty) (e : TI) (q : Int) : AV Ty → T (AV Ty)
  | .sl false t xs => match Nat.beq (szOf E t) e.sz with
    | true => .ite (0 ≤ q) inferInstance (.ite (q < xs.length) inferInstance (.ret (.rp t xs q.toNat 0)) .fail) .fail
    | false => .fail
  | .ref r p vw full => match rowAt E hp r p with
    | some (_, row) => match Nat.beq (szOf E row.t) e.sz with
      | true => .ite (0 ≤ q) inferInstance (.ite (q < vlen row.xs vw) inferInstance (.ret (.ptr r p (voff vw + q.toNat) 0)) .fail) .fail
      | false => .fail
    | none => .fail
  | _ => .fail
/-- The cells of a value. -/
def cellsOfA : AV Ty → Option (List (AV Ty))
  | .agg ds => some ds
  | .v x => match oneC x with
    | true => some [.v x]
    | false => none
  | .sl b t xs => some [.sl b t xs]
  | .ref r p vw f => some [.ref r p vw f]
  | .ptr r p i o => some [.ptr r p i o]
  | .rp t xs i o => some [.rp t xs i o]
  | _ => none
/-- Parts laid into cells: where each part lies (place, cells). -/
def fillA : List (AV Ty) → List (Nat × Nat × AV Ty) → Option (List (AV Ty))
  | cs, [] => some cs
  | cs, (off, z, a) :: l => match cellsOfA a with
    | some ds => match Nat.beq ds.length z && Nat.ble (off + ds.length) cs.length with
      | true => fillA (cs.take off ++ ds ++ cs.drop (off + ds.length)) l
      | false => none
    | none => none
/-- A zero value's rows are nil. -/
def nilZ : AV Ty → AV Ty
  | .sl _ _ _ => .v (.slice none 0 0)
  | a => a
def placesA (fs : List (Nat × Nat)) (fr : List (Nat × AV Ty)) : List (Nat × Operand) → Option (List (Nat × Nat × AV Ty))
  | [] => some []
  | (i, x) :: l => match fs[i]? with
    | some (off, t) => match E.ti t with
      | some ti => match placesA fs fr l with
        | some r => some ((off, ti.sz, opA fr x) :: r)
        | none => none
      | none => none
    | none => none
def pureT (st : St Ty) (op : Op) : T (AV Ty) := match op with
  | .move x => .ret (opA st.fr x)
  | .assign x => .ret (opA st.fr x)
  | .pick c a b => match opA st.fr c with
    | .v (.bool q) => .ite (q = true) inferInstance (.ret (opA st.fr a)) (.ret (opA st.fr b))
    | _ => .fail
  | .binOp op t x y _ => binA E op t (opA st.fr x) (opA st.fr y)
  | .unOp op _ x => unA op (opA st.fr x)
  | .convert s d x => match E.ti s, E.ti d, opA st.fr x with
    | some ⟨_, _, .int _⟩, some ⟨_, _, .int k⟩, .v (.int _ n) => .ret (.v (.int k (k.wrap n)))
    | _, _, _ => .fail
  | .extract x i => match opA st.fr x with
    | .tup cs => T.opt cs[i]?
    | _ => .fail
  | .nilCheck x => match opA st.fr x with
    | .ptr r p i o => .ret (.ptr r p i o)
    | .rp t xs i o => .ret (.rp t xs i o)
    | _ => .fail
  | .fieldAddr s x f => match E.ti s with
    | some ⟨_, _, .struct fs⟩ => match fs[f]?, opA st.fr x with
      | some (off, _), .ptr r p i o => .ret (.ptr r p i (o + off))
      | some (off, _), .rp t xs i o => .ret (.rp t xs i (o + off))
      | _, _ => .fail
    | _ => .fail
  | .indexAddr t x ix => match E.ti t, opA st.fr ix with
    | some ⟨_, _, .slice e⟩, .v (.int _ q) => match E.ti e with
      | some ie => indexT E st.hp ie q (opA st.fr x)
      | none => .fail
    | _, _ => .fail
  | .index t x ix => match E.ti t, opA st.fr x, opA st.fr ix with
    | some ⟨_, _, .str⟩, .v (.string s), .v (.int _ q) => .ite (0 ≤ q) inferInstance (.ite (q < s.size) inferInstance (.ret (.v (.int .u8 (btI s q)))) .fail) .fail
    | _, _, _ => .fail
  | .load t a => match E.ti t with
    | some i => match i.d with
      | .other => .fail
      | _ => loadT E st.hp i (opA st.fr a)
    | none => .fail
  | .slice t x lo hi mx => match E.ti t, opA st.fr x with
    | some ⟨_, _, .str⟩, .v (.string s) => match mx with
      | none => cutT s.size (lo.map (opA st.fr)) (hi.map (opA st.fr)) none fun l h _ => .ret (.v (.string (s.extract l h)))
      | some _ => .fail
    | some ⟨_, _, .slice e⟩, .sl false t' xs => match E.ti e with
      | some ie => match Nat.beq (szOf E t') ie.sz with
        | true => cutT xs.length (lo.map (opA st.fr)) (hi.map (opA st.fr)) (mx.map (opA st.fr)) fun l h _ => .ret (.sl false t' ((xs.drop l).take (h - l)))
        | false => .fail
      | none => .fail
    | some ⟨_, _, .slice e⟩, .ref r p vw full => match E.ti e, rowAt E st.hp r p with
      | some ie, some (_, row) => match Nat.beq (szOf E row.t) ie.sz with
        | true => cutT (vlen row.xs vw) (lo.map (opA st.fr)) (hi.map (opA st.fr)) (mx.map (opA st.fr)) fun l h f => .ret (.ref r p (some (voff vw + l, h - l)) f)
        | false => .fail
      | _, _ => .fail
    | _, _ => .fail
  | .build t parts => match E.ti t, E.has t with
    | some ⟨_, _, .struct fs⟩, true => match placesA E fs st.fr parts.toList with
      | some ps => match fillA (((E.cod t).enc false (E.cod t).zero).map nilZ) ps with
        | some cs => .ret (.agg cs)
        | none => .fail
      | none => .fail
    | _, _ => .fail
  | .call c => match c.callee, c.args.toList with
    | .builtin .len, [x] => match c.argTypes.toList with
      | [t] => match E.ti t, opA st.fr x with
        | some ⟨_, _, .str⟩, .v (.string s) => .ret (.v (.int .i64 s.size))
        | some ⟨_, _, .slice _⟩, .sl false _ xs => .ret (.v (.int .i64 xs.length))
        | some ⟨_, _, .slice _⟩, .ref r p vw _ => match rowAt E st.hp r p with
          | some (_, row) => .ret (.v (.int .i64 (vlen row.xs vw)))
          | none => .fail
        | _, _ => .fail
      | _ => .fail
    | .builtin .min, [x, y] => match opA st.fr x, opA st.fr y with
      | .v (.int k a), .v (.int _ b) => .ret (.v (.int k (if b < a then b else a)))
      | _, _ => .fail
    | .builtin .max, [x, y] => match opA st.fr x, opA st.fr y with
      | .v (.int k a), .v (.int _ b) => .ret (.v (.int k (if b > a then b else a)))
      | _, _ => .fail
    | _, _ => .fail
  | _ => .fail
end
end Go.Proofs.Ytnibdgjlbhdmfaa.Ev
