/- ir.Values, plnref3.Values; plnref3.SameFunc as a callee. -/
import Derived.Test.YtggibjbcbicpjaaIrG
import Derived.Test.YtggibjbcbicpjaaEvC27
namespace Go.Proofs.Ytggibjbcbicpjaa.Ev
open Go
set_option linter.unusedVariables false
set_option linter.unusedSimpArgs false
theorem okF.types {f : Ev.Func} (h : okF f) : (typesOf f).length ≤ 2000000 := by
  have h1 := h.1
  have h2 := tyB_le f.blocks
  have h3 := h.sz
  simp only [typesOf, List.length_append, List.length_cons, List.length_nil]
  omega
noncomputable def b31 : Code := bodyOf Try.f31
noncomputable def C31 : Cfg Ty := ⟨fun
  | 52 => some ([], S52)
  | _ => none, fun _ => false, 7, 0⟩
def U31 : Cuts := ⟨fun _ => none, fun _ => none, fun _ => none⟩
def a31 (f : Func) : List (AV Ty) := [.agg [.v (.string f.name), .v (.bool f.out), .sl false (3 : Nat) f.params, .v (.int .i64 f.result), .sl false (44 : Nat) f.blocks]]
noncomputable def R31 (f : Func) : St Ty → EvR := resT tb C31 Try.f31.results.toList .keep (a31 f)
theorem e31 (J f) : run tb C31 U31 J (R31 f) 4096 [.code b31] ⟨slotsA (a31 f) 0 0, heapA (a31 f)⟩ =
 if okF (Func.mk f.name f.out f.params f.result f.blocks) then
 some (.v (.int .i64 (IntKind.i64.wrap ((↑(typesOf (Func.mk f.name f.out f.params f.result f.blocks)).length : Int) - 1))), [.dead])
 else none := by kernel_rfl

theorem in31 : Entered 31 := ⟨Try.f31, b31, by kernel_rfl, by kernel_rfl, by kernel_rfl⟩
theorem fn31 (f : Ev.Func) {res : AV Ty} {outs : List (AV Ty)} (h : Ends C31 U31 (R31 f) [.code b31] ⟨slotsA (a31 f) 0 0, heapA (a31 f)⟩ (some (res, outs))) : CallOk tb Try.prog 31 (a31 f) res outs := by
  obtain ⟨n0, hn⟩ := h
  exact fn_ok (C := C31) (U := U31) (n := 0 + n0) (q := .keep) tbOk good (fun f mu S h => by
    unfold C31 at h
    simp only at h
    split at h
    · cases h; exact ⟨in52, S52_ok⟩
    · cases h) mixed (fn := Try.f31) (body := b31) (by kernel_rfl) (by kernel_rfl) rfl rfl (by show 1 ≤ 7; omega) (hn 0)
theorem values_ok (f : Ev.Func) (h : okF f) : CallOk tb Try.prog 31 (a31 f) (.v (.int .i64 ((typesOf f).length - 1))) [.dead] := by
  refine fn31 f (.step fun J => ?_)
  have := h.types
  have e : (⟨f.name, f.out, f.params, f.result, f.blocks⟩ : Ev.Func) = f := rfl
  rw [e31, e, if_pos h, wrap_up (by omega)]
def S31 : List (AV Ty) → T (AV Ty × List (AV Ty))
  | [.agg x] => match cod33.dec false x with
    | some f => .ite (okF f) (okF.dec f) (.ret (.v (.int .i64 ((typesOf f).length - 1)), [.dead])) .fail
    | none => .fail
  | _ => .fail
theorem S31_ok (l : List (AV Ty)) (r : AV Ty) (outs : List (AV Ty)) (h : (S31 l).val = some (r, outs)) : CallOk tb Try.prog 31 l r outs := by
  unfold S31 at h
  split at h
  · rename_i x
    split at h
    · rename_i f e1
      rcases ite_val h with ⟨e, h⟩ | ⟨_, h⟩
      · cases h
        have h1 := cod33_ok.dec false x f e1
        subst h1
        exact values_ok f e
      · cases h
    · cases h
  · cases h
noncomputable def b21 : Code := bodyOf Try.f21
noncomputable def C21 : Cfg Ty := ⟨fun
  | 30 => some ([], S30)
  | _ => none, fun _ => false, 7, 0⟩
def U21 : Cuts := ⟨fun _ => none, fun _ => none, fun _ => none⟩
def a21 (f : Func) : List (AV Ty) := [.agg [.v (.string f.name), .v (.bool f.out), .sl false (3 : Nat) f.params, .v (.int .i64 f.result), .sl false (44 : Nat) f.blocks]]
noncomputable def R21 (f : Func) : St Ty → EvR := resT tb C21 Try.f21.results.toList .keep (a21 f)
theorem e21 (J f) : run tb C21 U21 J (R21 f) 4096 [.code b21] ⟨slotsA (a21 f) 0 0, heapA (a21 f)⟩ =
 if okF (Func.mk f.name f.out f.params f.result f.blocks) then
 some (.v (.int .i64 (IntKind.i64.wrap ((↑(typesOf (Func.mk f.name f.out f.params f.result f.blocks)).length : Int) - 1))), [.dead])
 else none := by kernel_rfl

theorem in21 : Entered 21 := ⟨Try.f21, b21, by kernel_rfl, by kernel_rfl, by kernel_rfl⟩
theorem fn21 (f : Ev.Func) {res : AV Ty} {outs : List (AV Ty)} (h : Ends C21 U21 (R21 f) [.code b21] ⟨slotsA (a21 f) 0 0, heapA (a21 f)⟩ (some (res, outs))) : CallOk tb Try.prog 21 (a21 f) res outs := by
  obtain ⟨n0, hn⟩ := h
  exact fn_ok (C := C21) (U := U21) (n := 0 + n0) (q := .keep) tbOk good (fun f mu S h => by
    unfold C21 at h
    simp only at h
    split at h
    · cases h; exact ⟨in30, S30_ok⟩
    · cases h) mixed (fn := Try.f21) (body := b21) (by kernel_rfl) (by kernel_rfl) rfl rfl (by show 1 ≤ 7; omega) (hn 0)
theorem rvalues_ok (f : Ev.Func) (h : okF f) : CallOk tb Try.prog 21 (a21 f) (.v (.int .i64 ((typesOf f).length - 1))) [.dead] := by
  refine fn21 f (.step fun J => ?_)
  have := h.types
  have e : (⟨f.name, f.out, f.params, f.result, f.blocks⟩ : Ev.Func) = f := rfl
  rw [e21, e, if_pos h, wrap_up (by omega)]
def S21 : List (AV Ty) → T (AV Ty × List (AV Ty))
  | [.agg x] => match cod33.dec false x with
    | some f => .ite (okF f) (okF.dec f) (.ret (.v (.int .i64 ((typesOf f).length - 1)), [.dead])) .fail
    | none => .fail
  | _ => .fail
theorem S21_ok (l : List (AV Ty)) (r : AV Ty) (outs : List (AV Ty)) (h : (S21 l).val = some (r, outs)) : CallOk tb Try.prog 21 l r outs := by
  unfold S21 at h
  split at h
  · rename_i x
    split at h
    · rename_i f e1
      rcases ite_val h with ⟨e, h⟩ | ⟨_, h⟩
      · cases h
        have h1 := cod33_ok.dec false x f e1
        subst h1
        exact rvalues_ok f e
      · cases h
    · cases h
  · cases h
theorem okF.small {f : Ev.Func} (h : okF f) : smallFun f := by
  have h1 := h.1
  have h2 := h.2.1
  refine ⟨by omega, by omega, fun b hb => ?_⟩
  have h3 := h.2.2 b hb
  refine ⟨by have := h3.1; omega, fun i hi => ?_⟩
  have := h3.2 i hi
  unfold okIns at this
  exact ⟨by omega, by omega⟩
theorem in27 : Entered 27 := ⟨Try.f27, b27, by kernel_rfl, by kernel_rfl, by kernel_rfl⟩
def S27 : List (AV Ty) → T (AV Ty × List (AV Ty))
  | [.agg x, .agg y] => match cod33.dec false x, cod33.dec false y with
    | some a, some b => .ite (okF a) (okF.dec a) (.ret (.v (.bool (sameFun a b)), [.dead, .dead])) .fail
    | _, _ => .fail
  | _ => .fail
theorem S27_ok (l : List (AV Ty)) (r : AV Ty) (outs : List (AV Ty)) (h : (S27 l).val = some (r, outs)) : CallOk tb Try.prog 27 l r outs := by
  unfold S27 at h
  split at h
  · rename_i x y
    split at h
    · rename_i a b e1 e2
      rcases ite_val h with ⟨e, h⟩ | ⟨_, h⟩
      · cases h
        have h1 := cod33_ok.dec false x a e1
        have h2 := cod33_ok.dec false y b e2
        subst h1 h2
        exact sameFun_ok a b (okF.small e)
      · cases h
    · cases h
  · cases h
end Go.Proofs.Ytggibjbcbicpjaa.Ev
