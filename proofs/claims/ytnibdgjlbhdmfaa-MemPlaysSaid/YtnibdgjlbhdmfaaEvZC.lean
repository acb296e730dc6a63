/- What leaves memory alone answers the same where there is more memory. -/
import Derived.Test.YtnibdgjlbhdmfaaEvZ
namespace Go.Proofs.Ytnibdgjlbhdmfaa.Ev
open Go
set_option linter.unusedVariables false
set_option linter.unusedSimpArgs false
section
variable {Ty : Nat → Type} {E : Tb Ty} {hp hp' : Heap Ty}
def Sub (hp hp' : Heap Ty) : Prop := ∀ r R, root hp r = some R → root hp' r = some R
theorem Sub.refl (hp : Heap Ty) : Sub hp hp := fun _ _ h => h
theorem Sub.trans {hp2 : Heap Ty} (h : Sub hp hp') (k : Sub hp' hp2) : Sub hp hp2 := fun r R e => k r R (h r R e)
theorem rowAt_at {r : Nat} (h : ∀ R, root hp r = some R → root hp' r = some R) {p : Path} {x : Bool × Row Ty} (e : rowAt E hp r p = some x) : rowAt E hp' r p = some x := by
  unfold rowAt at e ⊢
  cases hr : root hp r with
  | none => rw [hr] at e; cases e
  | some R => rw [hr] at e; rw [h R hr]; exact e
/-- The roots that a value leads to are the same. -/
def Same0 (hp hp' : Heap Ty) : AV Ty → Prop
  | .ref r _ _ _ => ∀ R, root hp r = some R → root hp' r = some R
  | .ptr r _ _ _ => ∀ R, root hp r = some R → root hp' r = some R
  | _ => True
theorem loadT_sub {i : TI} {a av : AV Ty} (h : Same0 hp hp' a) (e : (loadT E hp i a).val = some av) : (loadT E hp' i a).val = some av := by
  unfold loadT at e ⊢
  cases a with
  | ptr r p k o =>
    simp only at e ⊢
    cases hr : rowAt E hp r p with
    | none => rw [hr] at e; cases e
    | some x => rw [hr] at e; rw [rowAt_at h hr]; exact e
  | _ => exact e
theorem indexT_sub {i : TI} {q : Int} {a av : AV Ty} (h : Same0 hp hp' a) (e : (indexT E hp i q a).val = some av) : (indexT E hp' i q a).val = some av := by
  unfold indexT at e ⊢
  cases a with
  | ref r p vw f =>
    simp only at e ⊢
    cases hr : rowAt E hp r p with
    | none => rw [hr] at e; cases e
    | some x => rw [hr] at e; rw [rowAt_at h hr]; exact e
  | sl b t xs => cases b <;> exact e
  | _ => exact e
theorem pureT_sub {fr : List (Nat × AV Ty)} {op : Op} {av : AV Ty} (h : ∀ x, Same0 hp hp' (opA fr x)) (e : (pureT E ⟨fr, hp⟩ op).val = some av) : (pureT E ⟨fr, hp'⟩ op).val = some av := by
  cases op
  case load t a =>
    simp only [pureT] at e ⊢
    split at e
    · split at e
      · cases e
      · exact loadT_sub (h _) e
    · cases e
  case indexAddr t x ix =>
    simp only [pureT] at e ⊢
    split at e
    · split at e
      · exact indexT_sub (h _) e
      · cases e
    · cases e
  case slice t x lo hi mx =>
    simp only [pureT] at e ⊢
    have hx := h x
    split at e
    · exact e
    · exact e
    · rename_i hq
      rw [hq] at hx
      split at e
      · rename_i e3 e4
        simp only [e3, rowAt_at hx e4]
        exact e
      · cases e
    · cases e
  case call c =>
    simp only [pureT] at e ⊢
    split at e
    · rename_i x _ _
      have hx := h x
      split at e
      · split at e
        · exact e
        · exact e
        · rename_i hq
          rw [hq] at hx
          split at e
          · rename_i e6
            simp only [rowAt_at hx e6]
            exact e
          · cases e
        · cases e
      · cases e
    · exact e
    · exact e
    · cases e
  all_goals exact e
end
end Go.Proofs.Ytnibdgjlbhdmfaa.Ev
