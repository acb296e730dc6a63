/- slices.Clone of numbers of 64 bits; plnref3.longs, CopyIns: what they come to. -/
import Derived.Test.YtggibjbcbicpjaaIrC
namespace Go.Proofs.Ytggibjbcbicpjaa.Ev
open Go
set_option linter.unusedVariables false
set_option linter.unusedSimpArgs false
noncomputable def b81 : Code := bodyOf Try.f81
noncomputable def C81 : Cfg Ty := ⟨fun _ => none, fun
  | 2 => true
  | 5 => true
  | 7 => true
  | _ => false, 8, 0⟩
def U81 : Cuts := ⟨fun _ => none, fun _ => none, fun _ => none⟩
def a81 (l : List Int) : List (AV Ty) := [.sl false (2 : Nat) l]
noncomputable def R81 (l : List Int) : St Ty → EvR := resT tb C81 Try.f81.results.toList (.own 2) (a81 l)
theorem e81 (J l) : run tb C81 U81 J (R81 l) 4096 [.code b81] ⟨slotsA (a81 l) 0 0, heapA (a81 l)⟩ =
 if 0 < l.length then
 if ([] : List Int).length + l.length + 1 ≤ 549755813888 ∧ (([] : List Int).length + l.length + 1) * 8 ≤ 549755813888 then
 some (.sl true 2 ([] ++ l), [.dead])
 else none
 else none := by kernel_rfl

theorem in81 : Entered 81 := ⟨Try.f81, b81, by kernel_rfl, by kernel_rfl, by kernel_rfl⟩
theorem fn81 (l : List Int) {res : AV Ty} {outs : List (AV Ty)} (h : Ends C81 U81 (R81 l) [.code b81] ⟨slotsA (a81 l) 0 0, heapA (a81 l)⟩ (some (res, outs))) : CallOk tb Try.prog 81 (a81 l) res outs := by
  obtain ⟨n0, hn⟩ := h
  exact fn_ok (C := C81) (U := U81) (n := 0 + n0) (q := (.own 2)) tbOk good (fun f mu S h => by cases h) mixed (fn := Try.f81) (body := b81) (by kernel_rfl) (by kernel_rfl) rfl rfl (by show 1 ≤ 8; omega) (hn 0)
theorem cloneL_nil (A : Option Addr) (c : Nat) : CallOk tb Try.prog 81 [.v (.slice A 0 c)] (.sl true 2 []) [.dead] := by
  have h : evalF tb C81 U81 1 b81 Try.f81.results.toList (.own 2) [.v (.slice A 0 c)] = some (.sl true 2 [], [.dead]) := by
    cases A
    · kernel_rfl
    · kernel_rfl
  exact fn_ok (C := C81) (U := U81) (n := 1) (q := .own 2) tbOk good (fun f mu S h => by cases h) mixed (fn := Try.f81) (body := b81) (by kernel_rfl) (by kernel_rfl) rfl rfl (by show 1 ≤ 8; omega) h
theorem cloneL_ok (l : List Int) (h : l.length ≤ 1000000) : CallOk tb Try.prog 81 (a81 l) (.sl true 2 l) [.dead] := by
  by_cases hl : 0 < l.length
  · refine fn81 l (.step fun J => ?_)
    rw [e81]
    simp (disch := first | omega | assumption | (rw [decide_eq_true_eq]; omega) | (rw [decide_eq_false_iff_not]; omega)) only [↓if_pos, ↓if_neg, if_true, if_false, wrap_up, Int.toNat_natCast, Nat.zero_add, List.nil_append, List.length_nil]
    rfl
  · have : l = [] := by cases l with
      | nil => rfl
      | cons x l => simp at hl
    subst this
    refine ⟨fun _ => ?_, fun g e h => by cases e; cases h⟩
    intro W F X vs sets caps hA
    obtain ⟨v, rfl⟩ := one_at hA.len
    have hr := hA.rep 0 v _ rfl rfl (fun m t x e => by cases e)
    obtain ⟨A, c, rfl⟩ : ∃ A c, v = .slice A 0 c := by
      cases hr with
      | nil A c t => exact ⟨A, c, rfl⟩
      | sl b off c t xs g h1 h2 h3 => exact ⟨_, c, rfl⟩
    refine Calls.mono ((cloneL_nil A c).1 rfl W F X [.slice A 0 c] sets caps ⟨rfl, hA.fb, fun i w a e1 e2 e3 => ?_, fun i w m t x e1 e2 => ?_, hA.dj, hA.inX, fun b j hx => ?_⟩) fun e w' he => ?_
    rotate_right
    · obtain ⟨v, S, F', s', k1, k2, k3, k4, k5, k6, k7, k8, k9, k10⟩ := he
      exact ⟨v, S, F', s', k1, k2, k3, k4, k5, k6, k7, k8, fun i m t x b off e => by
        cases i with
        | zero => cases e
        | succ i => simp [a81] at e, k10⟩
    · cases i with
      | zero => cases e1; cases e2; exact .v _
      | succ i => simp at e1
    · cases i with
      | zero => cases e2
      | succ i => simp at e1
    · obtain ⟨i, m, t, x, e, _⟩ := hA.X b j hx
      cases i with
      | zero => cases e
      | succ i => simp [a81] at e
def S81 : List (AV Ty) → T (AV Ty × List (AV Ty))
  | [.sl false 2 l] => .ite (l.length ≤ 1000000) inferInstance (.ret (.sl true 2 l, [.dead])) .fail
  | _ => .fail
theorem S81_ok (l : List (AV Ty)) (r : AV Ty) (outs : List (AV Ty)) (h : (S81 l).val = some (r, outs)) : CallOk tb Try.prog 81 l r outs := by
  unfold S81 at h
  split at h
  · rcases ite_val h with ⟨e, h⟩ | ⟨_, h⟩
    · cases h; exact cloneL_ok _ e
    · cases h
  · cases h

noncomputable def b82 : Code := bodyOf Try.f82
def C82 : Cfg Ty := ⟨fun _ => none, fun _ => false, 26, 0⟩
def U82 : Cuts := ⟨fun
  | 0 => some []
  | _ => none, fun
  | 0 => some [(0, none), (1, none), (5, none)]
  | _ => none, fun _ => none⟩
noncomputable def k82_j0 : List Item := [.code (sndC (sndC (sndC b82)))]
noncomputable def k82_l0 : List Item := [.code (inC (inC (sndC (fstC (sndC (sndC b82)))))), .inLoop (inC (inC (sndC (fstC (sndC (sndC b82)))))), .inBlock 0, .code (sndC (sndC (sndC b82)))]
def a82 (a : List Int) (b : List Int) : List (AV Ty) := [.sl false (2 : Nat) a, .sl false (2 : Nat) b]
noncomputable def R82 (a : List Int) (b : List Int) : St Ty → EvR := resT tb C82 Try.f82.results.toList .keep (a82 a b)
def s82_l0 (a : List Int) (b : List Int) (v5 : Int) : St Ty := St.mk [(0, .sl false (2) a), (1, .sl false (2) b), (5, .v (.int .i64 v5))] []
def s82_j0 (a : List Int) (b : List Int)  : St Ty := St.mk [] []
theorem e82 (J a b) : run tb C82 U82 J (R82 a b) 4096 [.code b82] ⟨slotsA (a82 a b) 0 0, heapA (a82 a b)⟩ =
 if ((↑a.length : Int) != (↑b.length : Int)) = true then
 some (.v (.bool false), [.dead, .dead])
 else
 J k82_l0 (s82_l0 a b 0) := by kernel_rfl
theorem e82_l0 (J a b v5) : run tb C82 U82 J (R82 a b) 4096 k82_l0 (s82_l0 a b v5) =
 if decide (v5 < (↑a.length : Int)) = true then
 if 0 ≤ v5 then
 if v5 < (↑a.length : Int) then
 if 0 ≤ v5 then
 if v5 < (↑b.length : Int) then
 if (a.getD v5.toNat 0 != b.getD v5.toNat 0) = true then
 some (.v (.bool false), [.dead, .dead])
 else
 J k82_l0 (s82_l0 a b (IntKind.i64.wrap (v5 + 1)))
 else none
 else none
 else none
 else none
 else
 J k82_j0 (s82_j0 a b) := by kernel_rfl
theorem e82_j0 (J a b) : run tb C82 U82 J (R82 a b) 4096 k82_j0 (s82_j0 a b) =
 some (.v (.bool true), [.dead, .dead]) := by kernel_rfl

theorem in82 : Entered 82 := ⟨Try.f82, b82, by kernel_rfl, by kernel_rfl, by kernel_rfl⟩
theorem fn82 (a b : List Int) {res : AV Ty} {outs : List (AV Ty)} (h : Ends C82 U82 (R82 a b) [.code b82] ⟨slotsA (a82 a b) 0 0, heapA (a82 a b)⟩ (some (res, outs))) : CallOk tb Try.prog 82 (a82 a b) res outs := by
  obtain ⟨n0, hn⟩ := h
  exact fn_ok (C := C82) (U := U82) (n := 0 + n0) (q := .keep) tbOk good (fun f mu S h => by cases h) mixed (fn := Try.f82) (body := b82) (by kernel_rfl) (by kernel_rfl) rfl rfl (by show 2 ≤ 26; omega) (hn 0)
theorem Longs.in {a b : List Int} (hl : a.length = b.length) (hb : a.length ≤ 4611686018427387904) {i : Nat} (hi : i < a.length) (he : a.getD i 0 = b.getD i 0) : Goes C82 U82 (R82 a b) k82_l0 (s82_l0 a b i) k82_l0 (s82_l0 a b (i + 1 : Nat)) := .step fun J => by
  rw [e82_l0]
  simp only [Int.toNat_natCast, he, bne_self_eq_false]
  simp (disch := first | omega | assumption | (rw [decide_eq_true_eq]; omega) | (rw [decide_eq_false_iff_not]; omega)) only [↓if_pos, ↓if_neg, if_true, if_false, wrap_up, Int.toNat_natCast, Nat.zero_add, Bool.false_eq_true]
  rfl
theorem Longs.out {a b : List Int} (hl : a.length = b.length) {i : Nat} (hi : i < a.length) (he : ¬ a.getD i 0 = b.getD i 0) : Ends C82 U82 (R82 a b) k82_l0 (s82_l0 a b i) (some (.v (.bool false), [.dead, .dead])) := .step fun J => by
  have e1 : (a.getD i 0 != b.getD i 0) = true := by simpa using he
  rw [e82_l0]
  simp only [Int.toNat_natCast, e1]
  simp (disch := first | omega | assumption | (rw [decide_eq_true_eq]; omega) | (rw [decide_eq_false_iff_not]; omega)) only [↓if_pos, ↓if_neg, if_true, if_false, wrap_up, Int.toNat_natCast, Nat.zero_add]
theorem longs_ok (a b : List Int) (hb : a.length ≤ 4611686018427387904) : CallOk tb Try.prog 82 (a82 a b) (.v (.bool (same3 a b))) [.dead, .dead] := by
  refine fn82 a b ?_
  by_cases hl : a.length = b.length
  · refine Goes.ends (k' := k82_l0) (s' := s82_l0 a b (0 : Nat)) (.step fun J => ?_) ?_
    · rw [e82, hl]
      simp
    · by_cases he : ∃ i, i < a.length ∧ ¬ a.getD i 0 = b.getD i 0
      · have : same3 a b = false := decide_eq_false fun e => by
          subst e
          obtain ⟨i, _, h⟩ := he
          exact h rfl
        rw [this]
        obtain ⟨i, h1, h2⟩ := he
        exact Ends.at (fun i => s82_l0 a b i) a.length (fun i => a.getD i 0 = b.getD i 0) (fun i hi hp => Longs.in hl hb hi hp) (fun i hi hp => Longs.out hl hi hp) _ 0 (Nat.zero_add _) ⟨i, Nat.zero_le _, h1, h2⟩
      · have hall : ∀ i, i < a.length → a.getD i 0 = b.getD i 0 := fun i hi => Classical.byContradiction fun h => he ⟨i, hi, h⟩
        have : a = b := List.ext_getElem hl fun i h1 h2 => by
          have := hall i h1
          rw [List.getD_eq_getElem?_getD, List.getD_eq_getElem?_getD, List.getElem?_eq_getElem h1, List.getElem?_eq_getElem h2] at this
          exact this
        have h3 : same3 a b = true := decide_eq_true this
        rw [h3]
        refine Goes.ends (Goes.upto (fun i => s82_l0 a b i) a.length (fun i hi => Longs.in hl hb hi (hall i hi)) _ (Nat.le_refl _)) (Goes.ends (k' := k82_j0) (s' := s82_j0 a b) (.step fun J => ?_) (.step fun J => e82_j0 ..))
        rw [e82_l0]
        simp (disch := first | omega | assumption | (rw [decide_eq_true_eq]; omega) | (rw [decide_eq_false_iff_not]; omega)) only [↓if_pos, ↓if_neg, if_true, if_false, wrap_up, Int.toNat_natCast, Nat.zero_add]
  · have h3 : same3 a b = false := decide_eq_false fun e => hl (by rw [e])
    rw [h3]
    refine .step fun J => ?_
    rw [e82]
    rw [if_pos (by simp; omega)]
def S82 : List (AV Ty) → T (AV Ty × List (AV Ty))
  | [.sl false 2 a, .sl false 2 b] => .ite (a.length ≤ 4611686018427387904) inferInstance (.ret (.v (.bool (same3 a b)), [.dead, .dead])) .fail
  | _ => .fail
theorem S82_ok (l : List (AV Ty)) (r : AV Ty) (outs : List (AV Ty)) (h : (S82 l).val = some (r, outs)) : CallOk tb Try.prog 82 l r outs := by
  unfold S82 at h
  split at h
  · rcases ite_val h with ⟨e, h⟩ | ⟨_, h⟩
    · cases h; exact longs_ok _ _ e
    · cases h
  · cases h
noncomputable def b79 : Code := bodyOf Try.f79
noncomputable def C79 : Cfg Ty := ⟨fun _ => none, fun
  | 1 => true
  | 2 => true
  | 5 => true
  | 9 => true
  | 300001 => true
  | 400011 => true
  | _ => false, 12, 0⟩
def U79 : Cuts := ⟨fun _ => none, fun _ => none, fun _ => none⟩
def a79 (i : Ins) : List (AV Ty) := [.agg [.v (.int .i64 i.op), .v (.int .i64 i.type_), .v (.int .i64 i.to_), .v (.int .i64 i.sym_), .v (.int .i64 i.num), .sl false (3 : Nat) i.args, .sl false (3 : Nat) i.into]]
noncomputable def R79 (i : Ins) : St Ty → EvR := resT tb C79 Try.f79.results.toList .keep (a79 i)
theorem e79 (J i) : run tb C79 U79 J (R79 i) 4096 [.code b79] ⟨slotsA (a79 i) 0 0, heapA (a79 i)⟩ =
 if i.args.length + 1 ≤ 549755813888 ∧ (i.args.length + 1) * 8 ≤ 549755813888 then
 if i.into.length + 1 ≤ 549755813888 ∧ (i.into.length + 1) * 8 ≤ 549755813888 then
 some (.agg [.v (.int .i64 i.op), .v (.int .i64 i.type_), .v (.int .i64 i.to_), .v (.int .i64 i.sym_), .v (.int .i64 i.num), .sl true 3 i.args, .sl true 3 i.into], [.dead])
 else none
 else none := by kernel_rfl

theorem in79 : Entered 79 := ⟨Try.f79, b79, by kernel_rfl, by kernel_rfl, by kernel_rfl⟩
theorem fn79 (i : Ev.Ins) {res : AV Ty} {outs : List (AV Ty)} (h : Ends C79 U79 (R79 i) [.code b79] ⟨slotsA (a79 i) 0 0, heapA (a79 i)⟩ (some (res, outs))) : CallOk tb Try.prog 79 (a79 i) res outs := by
  obtain ⟨n0, hn⟩ := h
  exact fn_ok (C := C79) (U := U79) (n := 0 + n0) (q := .keep) tbOk good (fun f mu S h => by cases h) mixed (fn := Try.f79) (body := b79) (by kernel_rfl) (by kernel_rfl) rfl rfl (by show 1 ≤ 12; omega) (hn 0)
theorem copyIns2_ok (i : Ev.Ins) (h : okIns i) : CallOk tb Try.prog 79 (a79 i) (insS true i) [.dead] := by
  obtain ⟨h1, h2⟩ := h
  refine fn79 i (.step fun J => ?_)
  rw [e79]
  simp (disch := first | omega | assumption | (rw [decide_eq_true_eq]; omega) | (rw [decide_eq_false_iff_not]; omega)) only [↓if_pos, ↓if_neg, if_true, if_false, wrap_up, Int.toNat_natCast, Nat.zero_add]
  rfl
def S79 : List (AV Ty) → T (AV Ty × List (AV Ty))
  | [.agg x] => match cod46.dec false x with
    | some i => .ite (okIns i) (okIns.dec i) (.ret (.agg [.v (.int .i64 i.op), .v (.int .i64 i.type_), .v (.int .i64 i.to_), .v (.int .i64 i.sym_), .v (.int .i64 i.num), .sl true 3 i.args, .sl true 3 i.into], [.dead])) .fail
    | none => .fail
  | _ => .fail
theorem S79_ok (l : List (AV Ty)) (r : AV Ty) (outs : List (AV Ty)) (h : (S79 l).val = some (r, outs)) : CallOk tb Try.prog 79 l r outs := by
  unfold S79 at h
  split at h
  · rename_i x
    split at h
    · rename_i i e1
      rcases ite_val h with ⟨e, h⟩ | ⟨_, h⟩
      · cases h
        have h1 := cod46_ok.dec false x i e1
        subst h1
        exact copyIns2_ok i e
      · cases h
    · cases h
  · cases h
end Go.Proofs.Ytggibjbcbicpjaa.Ev
