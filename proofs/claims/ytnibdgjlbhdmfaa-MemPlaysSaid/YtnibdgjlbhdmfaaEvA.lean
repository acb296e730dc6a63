/- An evaluator of this session's own for the program's code: values are typed Lean lists; owned memory is a list of roots. Definitions alone. -/
import Derived.WalkKit
import Derived.Below
import Derived.Orders
import Derived.KernelRfl
namespace Go.Proofs.Ytnibdgjlbhdmfaa.Ev
open Go
set_option linter.unusedVariables false
/-- Where a row stands inside a root: element and cell, step by step. -/
abbrev Path := List (Nat × Nat)
/-- An abstract value. -/
inductive AV (Ty : Nat → Type) where
  | v (x : Value)
  | sl (own : Bool) (t : Nat) (xs : List (Ty t))
  | ref (r : Nat) (p : Path) (vw : Option (Nat × Nat)) (full : Bool)
  | ptr (r : Nat) (p : Path) (i o : Nat)
  | rp (t : Nat) (xs : List (Ty t)) (i o : Nat)
  | box (m : Bool) (t : Nat) (x : Ty t)
  | agg (cs : List (AV Ty))
  | tup (cs : List (AV Ty))
  | ext (r : Nat) (p : Path) (t : Nat) (xs : List (Ty t))
  | dead
instance {Ty : Nat → Type} : Inhabited (AV Ty) := ⟨.dead⟩
/-- How an element of a row lies in cells. -/
structure Cod (Ty : Nat → Type) (t : Nat) where
  sz : Nat
  zero : Ty t
  enc : Bool → Ty t → List (AV Ty)
  dec : Bool → List (AV Ty) → Option (Ty t)
inductive D where
  | int (k : IntKind)
  | bool
  | str
  | slice (e : Nat)
  | struct (fs : List (Nat × Nat))
  | arr (n e : Nat)
  | ptr (e : Nat)
  | other
structure TI where
  sz : Nat
  bytes : Nat
  d : D
/-- The tables. -/
structure Tb (Ty : Nat → Type) where
  cod : (t : Nat) → Cod Ty t
  ti : Nat → Option TI
  has : Nat → Bool
  flat : Nat → Bool
  /-- All that hangs on an element is its own. -/
  sole : Nat → Bool
/-- A tree of tests. -/
inductive T (α : Type) where
  | ret (a : α)
  | ite (c : Prop) (d : Decidable c) (x y : T α)
  | fail
def T.bind {α β : Type} : T α → (α → T β) → T β
  | .ret a, f => f a
  | .ite c d x y, f => .ite c d (x.bind f) (y.bind f)
  | .fail, _ => .fail
def T.run {α β : Type} : T α → (α → Option β) → Option β
  | .ret a, k => k a
  | .ite c d x y, k => @_root_.ite _ c d (x.run k) (y.run k)
  | .fail, _ => none
def T.val {α : Type} : T α → Option α
  | .ret a => some a
  | .ite c d x y => @_root_.ite _ c d x.val y.val
  | .fail => none
theorem T.run_eq {α β : Type} (t : T α) (k : α → Option β) {r : β} : t.run k = some r ↔ ∃ a, t.val = some a ∧ k a = some r := by
  induction t with
  | ret a => simp [T.run, T.val]
  | ite c d x y ih1 ih2 => simp only [T.run, T.val]; split <;> assumption
  | fail => simp [T.run, T.val]
theorem T.val_bind {α β : Type} (t : T α) (f : α → T β) {r : β} : (t.bind f).val = some r ↔ ∃ a, t.val = some a ∧ (f a).val = some r := by
  induction t with
  | ret a => simp [T.bind, T.val]
  | ite c d x y ih1 ih2 => simp only [T.bind, T.val]; split <;> assumption
  | fail => simp [T.bind, T.val]
def T.when {α : Type} (c : Prop) [d : Decidable c] (x : T α) : T α := .ite c d x .fail
def T.opt {α : Type} : Option α → T α
  | some a => .ret a
  | none => .fail
structure Root (Ty : Nat → Type) where
  t : Nat
  m : Bool
  xs : List (Ty t)
abbrev Heap (Ty : Nat → Type) := List (Option (Root Ty))
structure St (Ty : Nat → Type) where
  fr : List (Nat × AV Ty)
  hp : Heap Ty
section
variable {Ty : Nat → Type} (E : Tb Ty)
def look : List (Nat × AV Ty) → Nat → AV Ty
  | [], _ => .dead
  | (j, a) :: l, i => match Nat.beq i j with
    | true => a
    | false => look l i
def root (h : Heap Ty) (r : Nat) : Option (Root Ty) := match h[r]? with
  | some x => x
  | none => none
def cellOf (m : Bool) (t : Nat) (xs : List (Ty t)) (i o : Nat) : AV Ty := ((E.cod t).enc m (xs.getD i (E.cod t).zero)).getD o .dead
/-- A row, of whatever element type. -/
structure Row (Ty : Nat → Type) where
  t : Nat
  xs : List (Ty t)
def nav (m : Bool) : (t : Nat) → List (Ty t) → Path → Option (Row Ty)
  | t, xs, [] => some ⟨t, xs⟩
  | t, xs, (i, o) :: p => match cellOf E m t xs i o with
    | .sl _ t' ys => nav m t' ys p
    | _ => none
def setCell (m : Bool) (t : Nat) (xs : List (Ty t)) (i o : Nat) (a : AV Ty) : Option (List (Ty t)) :=
  match (E.cod t).dec m (((E.cod t).enc m (xs.getD i (E.cod t).zero)).set o a) with
  | some x => some (xs.set i x)
  | none => none
def upd (m : Bool) : (t : Nat) → List (Ty t) → Path → ((t : Nat) → List (Ty t) → Option (List (Ty t))) → Option (List (Ty t))
  | t, xs, [], f => f t xs
  | t, xs, (i, o) :: p, f => match cellOf E m t xs i o with
    | .sl b t' ys => match upd m t' ys p f with
      | some ys' => setCell E m t xs i o (.sl b t' ys')
      | none => none
    | _ => none
def view {t : Nat} (xs : List (Ty t)) : Option (Nat × Nat) → List (Ty t)
  | none => xs
  | some (o, n) => (xs.drop o).take n
def vlen {t : Nat} (xs : List (Ty t)) : Option (Nat × Nat) → Nat
  | none => xs.length
  | some (_, n) => n
def voff : Option (Nat × Nat) → Nat
  | none => 0
  | some (o, _) => o
/-- The row that a slice's value stands for, whole. -/
def rowAt (h : Heap Ty) (r : Nat) (p : Path) : Option (Bool × Row Ty) := match root h r with
  | some R => match nav E R.m R.t R.xs p with
    | some w => some (R.m, w)
    | none => none
  | none => none
/-- What is seen of a cell that was loaded. -/
def seen (r : Nat) (p : Path) (i o : Nat) : AV Ty → AV Ty
  | .sl true _ _ => .ref r (p ++ [(i, o)]) none false
  | a => a
/-- Is a place gone: at a root r, from depth n on? -/
def hit (ks : List (Nat × Nat)) (r : Nat) (p : Path) : Bool := match ks with
  | [] => false
  | k :: l => match Nat.beq k.1 r && Nat.ble k.2 p.length with
    | true => true
    | false => hit l r p
def kill0 (ks : List (Nat × Nat)) : AV Ty → AV Ty
  | .ref r p vw f => match hit ks r p with
    | true => .dead
    | false => .ref r p vw f
  | .ptr r p i o => match hit ks r p with
    | true => .dead
    | false => .ptr r p i o
  | .agg _ => .dead
  | .tup _ => .dead
  | .ext _ _ _ _ => .dead
  | a => a
def kill1 (ks : List (Nat × Nat)) : AV Ty → AV Ty
  | .agg cs => .agg (cs.map (kill0 ks))
  | a => kill0 ks a
/-- What stands where something is gone is no longer known. -/
def killB (ks : List (Nat × Nat)) : AV Ty → AV Ty
  | .tup cs => .tup (cs.map (kill1 ks))
  | a => kill1 ks a
def killA (ks : List (Nat × Nat)) (a : AV Ty) : AV Ty := match ks with
  | [] => a
  | k :: l => killB (k :: l) a
def killF (ks : List (Nat × Nat)) (fr : List (Nat × AV Ty)) : List (Nat × AV Ty) := match ks with
  | [] => fr
  | k :: l => fr.map fun (j, a) => (j, killA (k :: l) a)
end
end Go.Proofs.Ytnibdgjlbhdmfaa.Ev
