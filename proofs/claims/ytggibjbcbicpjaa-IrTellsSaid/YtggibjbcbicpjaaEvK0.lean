/- Small helps for the walks of the program's functions. -/
import Derived.Test.YtggibjbcbicpjaaEvTz
import Derived.IntWalk
namespace Go.Proofs.Ytggibjbcbicpjaa.Ev
open Go
def fstC : Code → Code
  | .seq a _ => a
  | c => c
def sndC : Code → Code
  | .seq _ b => b
  | c => c
def inC : Code → Code
  | .block _ c => c
  | .loop c => c
  | .scope c => c
  | c => c
def thenC : Code → Code
  | .cond _ a _ => a
  | c => c
def elseC : Code → Code
  | .cond _ _ b => b
  | c => c
def bodyOf (f : Go.Func) : Code := match f.body with
  | some c => c
  | none => .skip
theorem walk_succ {Ty : Nat → Type} {E : Tb Ty} {C : Cfg Ty} {U : Cuts} {R : Type} {Rt : St Ty → Option R} {n : Nat} {k : List Item} {s : St Ty} : walk E C U Rt (n + 1) k s = run E C U (walk E C U Rt n) Rt 4096 k s := rfl
theorem wrap_up {x : Int} (h : -9223372036854775808 ≤ x ∧ x ≤ 9223372036854775807) : IntKind.i64.wrap x = x := Go.IntWalk.i64_in x h
/-- What a walked function may be called by. -/
def Entered (f : FuncId) : Prop := ∃ fn c, Try.prog.funcs[f]? = some fn ∧ (fn.name == "runtime.NumGoroutine") = false ∧ fn.body = some c
end Go.Proofs.Ytggibjbcbicpjaa.Ev
