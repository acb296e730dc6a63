/- ir.sameExtern, sameGlobal, sameTable, sameIns: what they come to. -/
import Derived.Test.YtggibjbcbicpjaaIrT
namespace Go.Proofs.Ytggibjbcbicpjaa.Ev
open Go
set_option linter.unusedVariables false
set_option linter.unusedSimpArgs false
noncomputable def b87 : Code := bodyOf Try.f87
noncomputable def C87 : Cfg Ty := ⟨fun
  | 94 => some ([], S94)
  | _ => none, fun _ => false, 24, 0⟩
def U87 : Cuts := ⟨fun _ => none, fun _ => none, fun _ => none⟩
def a87 (a : Extern) (b : Extern) : List (AV Ty) := [.agg [.v (.string a.name), .sl false (3 : Nat) a.params, .v (.int .i64 a.result)], .agg [.v (.string b.name), .sl false (3 : Nat) b.params, .v (.int .i64 b.result)]]
noncomputable def R87 (a : Extern) (b : Extern) : St Ty → EvR := resT tb C87 Try.f87.results.toList .keep (a87 a b)
theorem e87 (J a b) : run tb C87 U87 J (R87 a b) 4096 [.code b87] ⟨slotsA (a87 a b) 0 0, heapA (a87 a b)⟩ =
 if (a.name.toList == b.name.toList) = true then
 if (a.result == b.result) = true then
 if a.params.length ≤ 4611686018427387904 then
 some (.v (.bool (same3 a.params b.params)), [.dead, .dead])
 else none
 else
 some (.v (.bool false), [.dead, .dead])
 else
 some (.v (.bool false), [.dead, .dead]) := by kernel_rfl

theorem in87 : Entered 87 := ⟨Try.f87, b87, by kernel_rfl, by kernel_rfl, by kernel_rfl⟩
theorem fn87 (a b : Ev.Extern) {res : AV Ty} {outs : List (AV Ty)} (h : Ends C87 U87 (R87 a b) [.code b87] ⟨slotsA (a87 a b) 0 0, heapA (a87 a b)⟩ (some (res, outs))) : CallOk tb Try.prog 87 (a87 a b) res outs := by
  obtain ⟨n0, hn⟩ := h
  exact fn_ok (C := C87) (U := U87) (n := 0 + n0) (q := .keep) tbOk good (fun f mu S h => by
    unfold C87 at h
    simp only at h
    split at h
    · cases h; exact ⟨in94, S94_ok⟩
    · cases h) mixed (fn := Try.f87) (body := b87) (by kernel_rfl) (by kernel_rfl) rfl rfl (by show 2 ≤ 24; omega) (hn 0)
theorem sameX_ok (a b : Ev.Extern) (h : a.params.length ≤ 4611686018427387904) : CallOk tb Try.prog 87 (a87 a b) (.v (.bool (sameX a b))) [.dead, .dead] := by
  refine fn87 a b (.step fun J => ?_)
  rw [e87]
  unfold sameX
  simp only [h, if_true]
  cases a.name.toList == b.name.toList <;> cases a.result == b.result <;> cases same3 a.params b.params <;> simp
def S87 : List (AV Ty) → T (AV Ty × List (AV Ty))
  | [.agg x, .agg y] => match cod91.dec false x, cod91.dec false y with
    | some a, some b => .ite (a.params.length ≤ 4611686018427387904) inferInstance (.ret (.v (.bool (sameX a b)), [.dead, .dead])) .fail
    | _, _ => .fail
  | _ => .fail
theorem S87_ok (l : List (AV Ty)) (r : AV Ty) (outs : List (AV Ty)) (h : (S87 l).val = some (r, outs)) : CallOk tb Try.prog 87 l r outs := by
  unfold S87 at h
  split at h
  · rename_i x y
    split at h
    · rename_i a b e1 e2
      rcases ite_val h with ⟨e, h⟩ | ⟨_, h⟩
      · cases h
        have h1 := cod91_ok.dec false x a e1
        have h2 := cod91_ok.dec false y b e2
        subst h1 h2
        exact sameX_ok a b e
      · cases h
    · cases h
  · cases h
noncomputable def b89 : Code := bodyOf Try.f89
noncomputable def C89 : Cfg Ty := ⟨fun
  | 134 => some ([], S134)
  | _ => none, fun _ => false, 17, 0⟩
def U89 : Cuts := ⟨fun _ => none, fun _ => none, fun _ => none⟩
def a89 (a : Global) (b : Global) : List (AV Ty) := [.agg [.v (.string a.name), .sl false (2 : Nat) a.cells], .agg [.v (.string b.name), .sl false (2 : Nat) b.cells]]
noncomputable def R89 (a : Global) (b : Global) : St Ty → EvR := resT tb C89 Try.f89.results.toList .keep (a89 a b)
theorem e89 (J a b) : run tb C89 U89 J (R89 a b) 4096 [.code b89] ⟨slotsA (a89 a b) 0 0, heapA (a89 a b)⟩ =
 if (a.name.toList == b.name.toList) = true then
 if a.cells.length ≤ 4611686018427387904 then
 some (.v (.bool (same3 a.cells b.cells)), [.dead, .dead])
 else none
 else
 some (.v (.bool false), [.dead, .dead]) := by kernel_rfl

theorem in89 : Entered 89 := ⟨Try.f89, b89, by kernel_rfl, by kernel_rfl, by kernel_rfl⟩
theorem fn89 (a b : Ev.Global) {res : AV Ty} {outs : List (AV Ty)} (h : Ends C89 U89 (R89 a b) [.code b89] ⟨slotsA (a89 a b) 0 0, heapA (a89 a b)⟩ (some (res, outs))) : CallOk tb Try.prog 89 (a89 a b) res outs := by
  obtain ⟨n0, hn⟩ := h
  exact fn_ok (C := C89) (U := U89) (n := 0 + n0) (q := .keep) tbOk good (fun f mu S h => by
    unfold C89 at h
    simp only at h
    split at h
    · cases h; exact ⟨in134, S134_ok⟩
    · cases h) mixed (fn := Try.f89) (body := b89) (by kernel_rfl) (by kernel_rfl) rfl rfl (by show 2 ≤ 17; omega) (hn 0)
theorem sameG_ok (a b : Ev.Global) (h : a.cells.length ≤ 4611686018427387904) : CallOk tb Try.prog 89 (a89 a b) (.v (.bool (sameG a b))) [.dead, .dead] := by
  refine fn89 a b (.step fun J => ?_)
  rw [e89]
  unfold sameG
  simp only [h, if_true]
  cases a.name.toList == b.name.toList <;> cases same3 a.cells b.cells <;> simp
def S89 : List (AV Ty) → T (AV Ty × List (AV Ty))
  | [.agg x, .agg y] => match cod94.dec false x, cod94.dec false y with
    | some a, some b => .ite (a.cells.length ≤ 4611686018427387904) inferInstance (.ret (.v (.bool (sameG a b)), [.dead, .dead])) .fail
    | _, _ => .fail
  | _ => .fail
theorem S89_ok (l : List (AV Ty)) (r : AV Ty) (outs : List (AV Ty)) (h : (S89 l).val = some (r, outs)) : CallOk tb Try.prog 89 l r outs := by
  unfold S89 at h
  split at h
  · rename_i x y
    split at h
    · rename_i a b e1 e2
      rcases ite_val h with ⟨e, h⟩ | ⟨_, h⟩
      · cases h
        have h1 := cod94_ok.dec false x a e1
        have h2 := cod94_ok.dec false y b e2
        subst h1 h2
        exact sameG_ok a b e
      · cases h
    · cases h
  · cases h
noncomputable def b91 : Code := bodyOf Try.f91
noncomputable def C91 : Cfg Ty := ⟨fun
  | 94 => some ([], S94)
  | _ => none, fun _ => false, 17, 0⟩
def U91 : Cuts := ⟨fun _ => none, fun _ => none, fun _ => none⟩
def a91 (a : Table) (b : Table) : List (AV Ty) := [.agg [.v (.string a.name), .sl false (3 : Nat) a.funcs], .agg [.v (.string b.name), .sl false (3 : Nat) b.funcs]]
noncomputable def R91 (a : Table) (b : Table) : St Ty → EvR := resT tb C91 Try.f91.results.toList .keep (a91 a b)
theorem e91 (J a b) : run tb C91 U91 J (R91 a b) 4096 [.code b91] ⟨slotsA (a91 a b) 0 0, heapA (a91 a b)⟩ =
 if (a.name.toList == b.name.toList) = true then
 if a.funcs.length ≤ 4611686018427387904 then
 some (.v (.bool (same3 a.funcs b.funcs)), [.dead, .dead])
 else none
 else
 some (.v (.bool false), [.dead, .dead]) := by kernel_rfl

theorem in91 : Entered 91 := ⟨Try.f91, b91, by kernel_rfl, by kernel_rfl, by kernel_rfl⟩
theorem fn91 (a b : Ev.Table) {res : AV Ty} {outs : List (AV Ty)} (h : Ends C91 U91 (R91 a b) [.code b91] ⟨slotsA (a91 a b) 0 0, heapA (a91 a b)⟩ (some (res, outs))) : CallOk tb Try.prog 91 (a91 a b) res outs := by
  obtain ⟨n0, hn⟩ := h
  exact fn_ok (C := C91) (U := U91) (n := 0 + n0) (q := .keep) tbOk good (fun f mu S h => by
    unfold C91 at h
    simp only at h
    split at h
    · cases h; exact ⟨in94, S94_ok⟩
    · cases h) mixed (fn := Try.f91) (body := b91) (by kernel_rfl) (by kernel_rfl) rfl rfl (by show 2 ≤ 17; omega) (hn 0)
theorem sameT_ok (a b : Ev.Table) (h : a.funcs.length ≤ 4611686018427387904) : CallOk tb Try.prog 91 (a91 a b) (.v (.bool (sameT a b))) [.dead, .dead] := by
  refine fn91 a b (.step fun J => ?_)
  rw [e91]
  unfold sameT
  simp only [h, if_true]
  cases a.name.toList == b.name.toList <;> cases same3 a.funcs b.funcs <;> simp
def S91 : List (AV Ty) → T (AV Ty × List (AV Ty))
  | [.agg x, .agg y] => match cod96.dec false x, cod96.dec false y with
    | some a, some b => .ite (a.funcs.length ≤ 4611686018427387904) inferInstance (.ret (.v (.bool (sameT a b)), [.dead, .dead])) .fail
    | _, _ => .fail
  | _ => .fail
theorem S91_ok (l : List (AV Ty)) (r : AV Ty) (outs : List (AV Ty)) (h : (S91 l).val = some (r, outs)) : CallOk tb Try.prog 91 l r outs := by
  unfold S91 at h
  split at h
  · rename_i x y
    split at h
    · rename_i a b e1 e2
      rcases ite_val h with ⟨e, h⟩ | ⟨_, h⟩
      · cases h
        have h1 := cod96_ok.dec false x a e1
        have h2 := cod96_ok.dec false y b e2
        subst h1 h2
        exact sameT_ok a b e
      · cases h
    · cases h
  · cases h
noncomputable def b96 : Code := bodyOf Try.f96
noncomputable def C96 : Cfg Ty := ⟨fun
  | 94 => some ([], S94)
  | _ => none, fun _ => false, 52, 0⟩
def U96 : Cuts := ⟨fun _ => none, fun _ => none, fun _ => none⟩
def a96 (a : Ins) (b : Ins) : List (AV Ty) := [.agg [.v (.int .i64 a.op), .v (.int .i64 a.type_), .v (.int .i64 a.to_), .v (.int .i64 a.sym_), .v (.int .i64 a.num), .sl false (3 : Nat) a.args, .sl false (3 : Nat) a.into], .agg [.v (.int .i64 b.op), .v (.int .i64 b.type_), .v (.int .i64 b.to_), .v (.int .i64 b.sym_), .v (.int .i64 b.num), .sl false (3 : Nat) b.args, .sl false (3 : Nat) b.into]]
noncomputable def R96 (a : Ins) (b : Ins) : St Ty → EvR := resT tb C96 Try.f96.results.toList .keep (a96 a b)
theorem e96 (J a b) : run tb C96 U96 J (R96 a b) 4096 [.code b96] ⟨slotsA (a96 a b) 0 0, heapA (a96 a b)⟩ =
 if (a.op == b.op) = true then
 if (a.type_ == b.type_) = true then
 if (a.to_ == b.to_) = true then
 if (a.sym_ == b.sym_) = true then
 if (a.num == b.num) = true then
 if a.args.length ≤ 4611686018427387904 then
 if same3 a.args b.args = true then
 if a.into.length ≤ 4611686018427387904 then
 some (.v (.bool (same3 a.into b.into)), [.dead, .dead])
 else none
 else
 some (.v (.bool false), [.dead, .dead])
 else none
 else
 some (.v (.bool false), [.dead, .dead])
 else
 some (.v (.bool false), [.dead, .dead])
 else
 some (.v (.bool false), [.dead, .dead])
 else
 some (.v (.bool false), [.dead, .dead])
 else
 some (.v (.bool false), [.dead, .dead]) := by kernel_rfl

theorem in96 : Entered 96 := ⟨Try.f96, b96, by kernel_rfl, by kernel_rfl, by kernel_rfl⟩
theorem fn96 (a b : Ev.Ins) {res : AV Ty} {outs : List (AV Ty)} (h : Ends C96 U96 (R96 a b) [.code b96] ⟨slotsA (a96 a b) 0 0, heapA (a96 a b)⟩ (some (res, outs))) : CallOk tb Try.prog 96 (a96 a b) res outs := by
  obtain ⟨n0, hn⟩ := h
  exact fn_ok (C := C96) (U := U96) (n := 0 + n0) (q := .keep) tbOk good (fun f mu S h => by
    unfold C96 at h
    simp only at h
    split at h
    · cases h; exact ⟨in94, S94_ok⟩
    · cases h) mixed (fn := Try.f96) (body := b96) (by kernel_rfl) (by kernel_rfl) rfl rfl (by show 2 ≤ 52; omega) (hn 0)
theorem irSameIns_ok (a b : Ev.Ins) (h : okIns a) : CallOk tb Try.prog 96 (a96 a b) (.v (.bool (sameIns a b))) [.dead, .dead] := by
  refine fn96 a b (.step fun J => ?_)
  rw [e96]
  unfold sameIns
  have h1 : a.args.length ≤ 4611686018427387904 := by have := h.1; omega
  have h2 : a.into.length ≤ 4611686018427387904 := by have := h.2; omega
  simp only [h1, h2, if_true]
  cases a.op == b.op <;> cases a.type_ == b.type_ <;> cases a.to_ == b.to_ <;> cases a.sym_ == b.sym_ <;> cases a.num == b.num <;> cases same3 a.args b.args <;> cases same3 a.into b.into <;> simp
def S96 : List (AV Ty) → T (AV Ty × List (AV Ty))
  | [.agg x, .agg y] => match cod46.dec false x, cod46.dec false y with
    | some a, some b => .ite (okIns a) (okIns.dec a) (.ret (.v (.bool (sameIns a b)), [.dead, .dead])) .fail
    | _, _ => .fail
  | _ => .fail
theorem S96_ok (l : List (AV Ty)) (r : AV Ty) (outs : List (AV Ty)) (h : (S96 l).val = some (r, outs)) : CallOk tb Try.prog 96 l r outs := by
  unfold S96 at h
  split at h
  · rename_i x y
    split at h
    · rename_i a b e1 e2
      rcases ite_val h with ⟨e, h⟩ | ⟨_, h⟩
      · cases h
        have h1 := cod46_ok.dec false x a e1
        have h2 := cod46_ok.dec false y b e2
        subst h1 h2
        exact irSameIns_ok a b e
      · cases h
    · cases h
  · cases h
end Go.Proofs.Ytggibjbcbicpjaa.Ev
