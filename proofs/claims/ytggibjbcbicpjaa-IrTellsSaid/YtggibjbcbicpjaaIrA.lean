/- slices.Clone of numbers; ir.copyIns. -/
import Derived.Test.YtggibjbcbicpjaaEvGo
import Derived.Test.YtggibjbcbicpjaaEvS78
namespace Go.Proofs.Ytggibjbcbicpjaa.Ev
open Go
set_option linter.unusedVariables false
set_option linter.unusedSimpArgs false
noncomputable def b80 : Code := bodyOf Try.f80
noncomputable def C80 : Cfg Ty := ⟨fun _ => none, fun
  | 2 => true
  | 5 => true
  | 7 => true
  | _ => false, 8, 0⟩
def U80 : Cuts := ⟨fun _ => none, fun _ => none, fun _ => none⟩
def a80 (l : List Int) : List (AV Ty) := [.sl false (3 : Nat) l]
noncomputable def R80 (l : List Int) : St Ty → EvR := resT tb C80 Try.f80.results.toList (.own 3) (a80 l)
theorem e80 (J l) : run tb C80 U80 J (R80 l) 4096 [.code b80] ⟨slotsA (a80 l) 0 0, heapA (a80 l)⟩ =
 if 0 < l.length then
 if ([] : List Int).length + l.length + 1 ≤ 549755813888 ∧ (([] : List Int).length + l.length + 1) * 8 ≤ 549755813888 then
 some (.sl true 3 ([] ++ l), [.dead])
 else none
 else none := by kernel_rfl

theorem in80 : Entered 80 := ⟨Try.f80, b80, by kernel_rfl, by kernel_rfl, by kernel_rfl⟩
theorem fn80 (l : List Int) {res : AV Ty} {outs : List (AV Ty)} (h : Ends C80 U80 (R80 l) [.code b80] ⟨slotsA (a80 l) 0 0, heapA (a80 l)⟩ (some (res, outs))) : CallOk tb Try.prog 80 (a80 l) res outs := by
  obtain ⟨n0, hn⟩ := h
  exact fn_ok (C := C80) (U := U80) (n := 0 + n0) (q := (.own 3)) tbOk good (fun f mu S h => by cases h) mixed (fn := Try.f80) (body := b80) (by kernel_rfl) (by kernel_rfl) rfl rfl (by show 1 ≤ 8; omega) (hn 0)
theorem clone_nil (A : Option Addr) (c : Nat) : CallOk tb Try.prog 80 [.v (.slice A 0 c)] (.sl true 3 []) [.dead] := by
  have h : evalF tb C80 U80 1 b80 Try.f80.results.toList (.own 3) [.v (.slice A 0 c)] = some (.sl true 3 [], [.dead]) := by
    cases A
    · kernel_rfl
    · kernel_rfl
  exact fn_ok (C := C80) (U := U80) (n := 1) (q := .own 3) tbOk good (fun f mu S h => by cases h) mixed (fn := Try.f80) (body := b80) (by kernel_rfl) (by kernel_rfl) rfl rfl (by show 1 ≤ 8; omega) h
theorem one_at {α : Type} {l : List α} (h : l.length = 1) : ∃ v, l = [v] := by
  match l, h with
  | [v], _ => exact ⟨v, rfl⟩
theorem clone_ok (l : List Int) (h : l.length ≤ 1000000) : CallOk tb Try.prog 80 (a80 l) (.sl true 3 l) [.dead] := by
  by_cases hl : 0 < l.length
  · refine fn80 l (.step fun J => ?_)
    rw [e80]
    simp (disch := first | omega | assumption | (rw [decide_eq_true_eq]; omega) | (rw [decide_eq_false_iff_not]; omega)) only [↓if_pos, ↓if_neg, if_true, if_false, wrap_up, Int.toNat_natCast, Nat.zero_add, List.nil_append, List.length_nil]
    rfl
  · have : l = [] := by cases l with
      | nil => rfl
      | cons x l => simp at hl
    subst this
    refine ⟨fun _ => ?_, fun g e h => by cases e; cases h⟩
    intro W F X vs sets caps hA
    obtain ⟨v, rfl⟩ := one_at hA.len
    have hr := hA.rep 0 v _ rfl rfl (fun m t x e => by cases e)
    obtain ⟨A, c, rfl⟩ : ∃ A c, v = .slice A 0 c := by
      cases hr with
      | nil A c t => exact ⟨A, c, rfl⟩
      | sl b off c t xs g h1 h2 h3 => exact ⟨_, c, rfl⟩
    refine Calls.mono ((clone_nil A c).1 rfl W F X [.slice A 0 c] sets caps ⟨rfl, hA.fb, fun i w a e1 e2 e3 => ?_, fun i w m t x e1 e2 => ?_, hA.dj, hA.inX, fun b j hx => ?_⟩) fun e w' he => ?_
    rotate_right
    · obtain ⟨v, S, F', s', k1, k2, k3, k4, k5, k6, k7, k8, k9, k10⟩ := he
      exact ⟨v, S, F', s', k1, k2, k3, k4, k5, k6, k7, k8, fun i m t x b off e => by
        cases i with
        | zero => cases e
        | succ i => simp [a80] at e, k10⟩
    · cases i with
      | zero => cases e1; cases e2; exact .v _
      | succ i => simp at e1
    · cases i with
      | zero => cases e2
      | succ i => simp at e1
    · obtain ⟨i, m, t, x, e, _⟩ := hA.X b j hx
      cases i with
      | zero => cases e
      | succ i => simp [a80] at e
def S80 : List (AV Ty) → T (AV Ty × List (AV Ty))
  | [.sl false 3 l] => .ite (l.length ≤ 1000000) inferInstance (.ret (.sl true 3 l, [.dead])) .fail
  | _ => .fail
theorem S80_ok (l : List (AV Ty)) (r : AV Ty) (outs : List (AV Ty)) (h : (S80 l).val = some (r, outs)) : CallOk tb Try.prog 80 l r outs := by
  unfold S80 at h
  split at h
  · rcases ite_val h with ⟨e, h⟩ | ⟨_, h⟩
    · cases h; exact clone_ok _ e
    · cases h
  · cases h
end Go.Proofs.Ytggibjbcbicpjaa.Ev
