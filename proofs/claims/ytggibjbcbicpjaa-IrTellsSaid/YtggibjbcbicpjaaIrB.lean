/- ir.copyIns: an instruction in new memory. -/
import Derived.Test.YtggibjbcbicpjaaIrA
namespace Go.Proofs.Ytggibjbcbicpjaa.Ev
open Go
set_option linter.unusedVariables false
set_option linter.unusedSimpArgs false
noncomputable def b131 : Code := bodyOf Try.f131
noncomputable def C131 : Cfg Ty := ⟨fun
  | 80 => some ([], S80)
  | _ => none, fun
  | 1 => true
  | 2 => true
  | 300001 => true
  | 400011 => true
  | _ => false, 12, 0⟩
def U131 : Cuts := ⟨fun _ => none, fun _ => none, fun _ => none⟩
def a131 (i : Ins) : List (AV Ty) := [.agg [.v (.int .i64 i.op), .v (.int .i64 i.type_), .v (.int .i64 i.to_), .v (.int .i64 i.sym_), .v (.int .i64 i.num), .sl false (3 : Nat) i.args, .sl false (3 : Nat) i.into]]
noncomputable def R131 (i : Ins) : St Ty → EvR := resT tb C131 Try.f131.results.toList .keep (a131 i)
theorem e131 (J i) : run tb C131 U131 J (R131 i) 4096 [.code b131] ⟨slotsA (a131 i) 0 0, heapA (a131 i)⟩ =
 if i.args.length ≤ 1000000 then
 if i.into.length ≤ 1000000 then
 some (.agg [.v (.int .i64 i.op), .v (.int .i64 i.type_), .v (.int .i64 i.to_), .v (.int .i64 i.sym_), .v (.int .i64 i.num), .sl true 3 i.args, .sl true 3 i.into], [.dead])
 else none
 else none := by kernel_rfl

theorem in131 : Entered 131 := ⟨Try.f131, b131, by kernel_rfl, by kernel_rfl, by kernel_rfl⟩
theorem fn131 (i : Ev.Ins) {res : AV Ty} {outs : List (AV Ty)} (h : Ends C131 U131 (R131 i) [.code b131] ⟨slotsA (a131 i) 0 0, heapA (a131 i)⟩ (some (res, outs))) : CallOk tb Try.prog 131 (a131 i) res outs := by
  obtain ⟨n0, hn⟩ := h
  exact fn_ok (C := C131) (U := U131) (n := 0 + n0) (q := .keep) tbOk good (fun f mu S h => by
    unfold C131 at h
    simp only at h
    split at h
    · cases h; exact ⟨in80, S80_ok⟩
    · cases h) mixed (fn := Try.f131) (body := b131) (by kernel_rfl) (by kernel_rfl) rfl rfl (by show 1 ≤ 12; omega) (hn 0)
def insS (q : Bool) (i : Ev.Ins) : AV Ty := .agg [.v (.int .i64 i.op), .v (.int .i64 i.type_), .v (.int .i64 i.to_), .v (.int .i64 i.sym_), .v (.int .i64 i.num), .sl q 3 i.args, .sl q 3 i.into]
def okIns (i : Ev.Ins) : Prop := i.args.length ≤ 1000 ∧ i.into.length ≤ 1000
instance okIns.dec (i : Ev.Ins) : Decidable (okIns i) := by unfold okIns; infer_instance
theorem copyIns_ok (i : Ev.Ins) (h : okIns i) : CallOk tb Try.prog 131 (a131 i) (insS true i) [.dead] := by
  obtain ⟨h1, h2⟩ := h
  refine fn131 i (.step fun J => ?_)
  rw [e131]
  simp (disch := first | omega | assumption | (rw [decide_eq_true_eq]; omega) | (rw [decide_eq_false_iff_not]; omega)) only [↓if_pos, ↓if_neg, if_true, if_false, wrap_up, Int.toNat_natCast, Nat.zero_add]
  rfl
def S131 : List (AV Ty) → T (AV Ty × List (AV Ty))
  | [.agg x] => match cod46.dec false x with
    | some i => .ite (okIns i) (okIns.dec i) (.ret (.agg [.v (.int .i64 i.op), .v (.int .i64 i.type_), .v (.int .i64 i.to_), .v (.int .i64 i.sym_), .v (.int .i64 i.num), .sl true 3 i.args, .sl true 3 i.into], [.dead])) .fail
    | none => .fail
  | _ => .fail
theorem S131_ok (l : List (AV Ty)) (r : AV Ty) (outs : List (AV Ty)) (h : (S131 l).val = some (r, outs)) : CallOk tb Try.prog 131 l r outs := by
  unfold S131 at h
  split at h
  · rename_i x
    split at h
    · rename_i i e1
      rcases ite_val h with ⟨e, h⟩ | ⟨_, h⟩
      · cases h
        have h1 := cod46_ok.dec false x i e1
        subst h1
        exact copyIns_ok i e
      · cases h
    · cases h
  · cases h
end Go.Proofs.Ytggibjbcbicpjaa.Ev
