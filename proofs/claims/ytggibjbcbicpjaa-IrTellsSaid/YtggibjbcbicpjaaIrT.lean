/- slices.Equal of numbers; ir.sameExtern, sameGlobal, sameTable, sameIns: what they come to. -/
import Derived.Test.YtggibjbcbicpjaaIrP
namespace Go.Proofs.Ytggibjbcbicpjaa.Ev
open Go
set_option linter.unusedVariables false
set_option linter.unusedSimpArgs false
noncomputable def b94 : Code := bodyOf Try.f94
def C94 : Cfg Ty := ⟨fun _ => none, fun _ => false, 26, 0⟩
def U94 : Cuts := ⟨fun
  | 0 => some []
  | _ => none, fun
  | 0 => some [(0, none), (1, none), (12, none), (13, none)]
  | _ => none, fun _ => none⟩
noncomputable def k94_j0 : List Item := [.code (sndC (sndC (sndC b94)))]
noncomputable def k94_l0 : List Item := [.code (inC (inC (sndC (fstC (sndC (sndC b94)))))), .inLoop (inC (inC (sndC (fstC (sndC (sndC b94)))))), .inBlock 0, .code (sndC (sndC (sndC b94)))]
def a94 (a : List Int) (b : List Int) : List (AV Ty) := [.sl false (3 : Nat) a, .sl false (3 : Nat) b]
noncomputable def R94 (a : List Int) (b : List Int) : St Ty → EvR := resT tb C94 Try.f94.results.toList .keep (a94 a b)
def s94_l0 (a : List Int) (b : List Int) (v12 : Int) (v13 : Int) : St Ty := St.mk [(0, .sl false (3) a), (1, .sl false (3) b), (12, .v (.int .i64 v12)), (13, .v (.int .i64 v13))] []
def s94_j0 (a : List Int) (b : List Int)  : St Ty := St.mk [] []
theorem e94 (J a b) : run tb C94 U94 J (R94 a b) 4096 [.code b94] ⟨slotsA (a94 a b) 0 0, heapA (a94 a b)⟩ =
 if ((↑a.length : Int) != (↑b.length : Int)) = true then
 some (.v (.bool false), [.dead, .dead])
 else
 J k94_l0 (s94_l0 a b ((↑a.length : Int)) 0) := by kernel_rfl
theorem e94_l0 (J a b v12 v13) : run tb C94 U94 J (R94 a b) 4096 k94_l0 (s94_l0 a b v12 v13) =
 if decide (v13 < v12) = true then
 if 0 ≤ v13 then
 if v13 < (↑a.length : Int) then
 if 0 ≤ v13 then
 if v13 < (↑b.length : Int) then
 if (a.getD v13.toNat 0 != b.getD v13.toNat 0) = true then
 some (.v (.bool false), [.dead, .dead])
 else
 J k94_l0 (s94_l0 a b v12 (IntKind.i64.wrap (v13 + 1)))
 else none
 else none
 else none
 else none
 else
 J k94_j0 (s94_j0 a b) := by kernel_rfl
theorem e94_j0 (J a b) : run tb C94 U94 J (R94 a b) 4096 k94_j0 (s94_j0 a b) =
 some (.v (.bool true), [.dead, .dead]) := by kernel_rfl

theorem in94 : Entered 94 := ⟨Try.f94, b94, by kernel_rfl, by kernel_rfl, by kernel_rfl⟩
theorem fn94 (a b : List Int) {res : AV Ty} {outs : List (AV Ty)} (h : Ends C94 U94 (R94 a b) [.code b94] ⟨slotsA (a94 a b) 0 0, heapA (a94 a b)⟩ (some (res, outs))) : CallOk tb Try.prog 94 (a94 a b) res outs := by
  obtain ⟨n0, hn⟩ := h
  exact fn_ok (C := C94) (U := U94) (n := 0 + n0) (q := .keep) tbOk good (fun f mu S h => by cases h) mixed (fn := Try.f94) (body := b94) (by kernel_rfl) (by kernel_rfl) rfl rfl (by show 2 ≤ 26; omega) (hn 0)
theorem Equal3.at {a b : List Int} (hl : a.length = b.length) (hb : a.length ≤ 4611686018427387904) {i : Nat} (hi : i < a.length) : (a.getD i 0 = b.getD i 0 → Goes C94 U94 (R94 a b) k94_l0 (s94_l0 a b a.length i) k94_l0 (s94_l0 a b a.length (i + 1 : Nat))) ∧ (¬ a.getD i 0 = b.getD i 0 → Ends C94 U94 (R94 a b) k94_l0 (s94_l0 a b a.length i) noE) := by
  refine ⟨fun he => .step fun J => ?_, fun he => .step fun J => ?_⟩
  · rw [e94_l0]
    simp only [Int.toNat_natCast, he, bne_self_eq_false]
    simp (disch := first | omega | assumption | (rw [decide_eq_true_eq]; omega) | (rw [decide_eq_false_iff_not]; omega)) only [↓if_pos, ↓if_neg, if_true, if_false, wrap_up, Int.toNat_natCast, Nat.zero_add, Bool.false_eq_true]
    rfl
  · have e1 : (a.getD i 0 != b.getD i 0) = true := by simpa using he
    rw [e94_l0]
    simp only [Int.toNat_natCast, e1]
    simp (disch := first | omega | assumption | (rw [decide_eq_true_eq]; omega) | (rw [decide_eq_false_iff_not]; omega)) only [↓if_pos, ↓if_neg, if_true, if_false, wrap_up, Int.toNat_natCast, Nat.zero_add]
theorem equal3_ok (a b : List Int) (hb : a.length ≤ 4611686018427387904) : CallOk tb Try.prog 94 (a94 a b) (.v (.bool (same3 a b))) [.dead, .dead] := by
  refine fn94 a b ?_
  have no : ¬ a = b → (some (.v (.bool (same3 a b)), [.dead, .dead]) : EvR) = noE := fun h => by
    rw [show same3 a b = false from decide_eq_false h]
  by_cases hl : a.length = b.length
  · refine Goes.ends (k' := k94_l0) (s' := s94_l0 a b a.length (0 : Nat)) (.step fun J => ?_) ?_
    · rw [e94, if_neg (by simp [hl])]
      rfl
    refine Ends.all (rF := noE) (fun i => s94_l0 a b a.length i) a.length (fun i => a.getD i 0 = b.getD i 0) (fun i hi hp => (Equal3.at hl hb hi).1 hp) (fun i hi hp => (Equal3.at hl hb hi).2 hp) (fun hall => ?_) (fun hx => no fun e => hx fun i _ => by rw [e])
    have : a = b := List.ext_getElem hl fun i h1 h2 => by
      have := hall i h1
      rw [List.getD_eq_getElem?_getD, List.getD_eq_getElem?_getD, List.getElem?_eq_getElem h1, List.getElem?_eq_getElem h2] at this
      exact this
    rw [show same3 a b = true from decide_eq_true this]
    refine Goes.ends (k' := k94_j0) (s' := s94_j0 a b) (.step fun J => ?_) (.step fun J => e94_j0 ..)
    rw [e94_l0]
    simp (disch := first | omega | assumption | (rw [decide_eq_true_eq]; omega) | (rw [decide_eq_false_iff_not]; omega)) only [↓if_pos, ↓if_neg, if_true, if_false, wrap_up, Int.toNat_natCast, Nat.zero_add]
  · rw [no fun e => hl (by rw [e])]
    refine .step fun J => ?_
    rw [e94]
    rw [if_pos (by simp; omega)]
def S94 : List (AV Ty) → T (AV Ty × List (AV Ty))
  | [.sl false 3 a, .sl false 3 b] => .ite (a.length ≤ 4611686018427387904) inferInstance (.ret (.v (.bool (same3 a b)), [.dead, .dead])) .fail
  | _ => .fail
theorem S94_ok (l : List (AV Ty)) (r : AV Ty) (outs : List (AV Ty)) (h : (S94 l).val = some (r, outs)) : CallOk tb Try.prog 94 l r outs := by
  unfold S94 at h
  split at h
  · rcases ite_val h with ⟨e, h⟩ | ⟨_, h⟩
    · cases h; exact equal3_ok _ _ e
    · cases h
  · cases h
noncomputable def b134 : Code := bodyOf Try.f134
def C134 : Cfg Ty := ⟨fun _ => none, fun _ => false, 26, 0⟩
def U134 : Cuts := ⟨fun
  | 0 => some []
  | _ => none, fun
  | 0 => some [(0, none), (1, none), (12, none), (13, none)]
  | _ => none, fun _ => none⟩
noncomputable def k134_j0 : List Item := [.code (sndC (sndC (sndC b134)))]
noncomputable def k134_l0 : List Item := [.code (inC (inC (sndC (fstC (sndC (sndC b134)))))), .inLoop (inC (inC (sndC (fstC (sndC (sndC b134)))))), .inBlock 0, .code (sndC (sndC (sndC b134)))]
def a134 (a : List Int) (b : List Int) : List (AV Ty) := [.sl false (2 : Nat) a, .sl false (2 : Nat) b]
noncomputable def R134 (a : List Int) (b : List Int) : St Ty → EvR := resT tb C134 Try.f134.results.toList .keep (a134 a b)
def s134_l0 (a : List Int) (b : List Int) (v12 : Int) (v13 : Int) : St Ty := St.mk [(0, .sl false (2) a), (1, .sl false (2) b), (12, .v (.int .i64 v12)), (13, .v (.int .i64 v13))] []
def s134_j0 (a : List Int) (b : List Int)  : St Ty := St.mk [] []
theorem e134 (J a b) : run tb C134 U134 J (R134 a b) 4096 [.code b134] ⟨slotsA (a134 a b) 0 0, heapA (a134 a b)⟩ =
 if ((↑a.length : Int) != (↑b.length : Int)) = true then
 some (.v (.bool false), [.dead, .dead])
 else
 J k134_l0 (s134_l0 a b ((↑a.length : Int)) 0) := by kernel_rfl
theorem e134_l0 (J a b v12 v13) : run tb C134 U134 J (R134 a b) 4096 k134_l0 (s134_l0 a b v12 v13) =
 if decide (v13 < v12) = true then
 if 0 ≤ v13 then
 if v13 < (↑a.length : Int) then
 if 0 ≤ v13 then
 if v13 < (↑b.length : Int) then
 if (a.getD v13.toNat 0 != b.getD v13.toNat 0) = true then
 some (.v (.bool false), [.dead, .dead])
 else
 J k134_l0 (s134_l0 a b v12 (IntKind.i64.wrap (v13 + 1)))
 else none
 else none
 else none
 else none
 else
 J k134_j0 (s134_j0 a b) := by kernel_rfl
theorem e134_j0 (J a b) : run tb C134 U134 J (R134 a b) 4096 k134_j0 (s134_j0 a b) =
 some (.v (.bool true), [.dead, .dead]) := by kernel_rfl

theorem in134 : Entered 134 := ⟨Try.f134, b134, by kernel_rfl, by kernel_rfl, by kernel_rfl⟩
theorem fn134 (a b : List Int) {res : AV Ty} {outs : List (AV Ty)} (h : Ends C134 U134 (R134 a b) [.code b134] ⟨slotsA (a134 a b) 0 0, heapA (a134 a b)⟩ (some (res, outs))) : CallOk tb Try.prog 134 (a134 a b) res outs := by
  obtain ⟨n0, hn⟩ := h
  exact fn_ok (C := C134) (U := U134) (n := 0 + n0) (q := .keep) tbOk good (fun f mu S h => by cases h) mixed (fn := Try.f134) (body := b134) (by kernel_rfl) (by kernel_rfl) rfl rfl (by show 2 ≤ 26; omega) (hn 0)
theorem Equal2.at {a b : List Int} (hl : a.length = b.length) (hb : a.length ≤ 4611686018427387904) {i : Nat} (hi : i < a.length) : (a.getD i 0 = b.getD i 0 → Goes C134 U134 (R134 a b) k134_l0 (s134_l0 a b a.length i) k134_l0 (s134_l0 a b a.length (i + 1 : Nat))) ∧ (¬ a.getD i 0 = b.getD i 0 → Ends C134 U134 (R134 a b) k134_l0 (s134_l0 a b a.length i) noE) := by
  refine ⟨fun he => .step fun J => ?_, fun he => .step fun J => ?_⟩
  · rw [e134_l0]
    simp only [Int.toNat_natCast, he, bne_self_eq_false]
    simp (disch := first | omega | assumption | (rw [decide_eq_true_eq]; omega) | (rw [decide_eq_false_iff_not]; omega)) only [↓if_pos, ↓if_neg, if_true, if_false, wrap_up, Int.toNat_natCast, Nat.zero_add, Bool.false_eq_true]
    rfl
  · have e1 : (a.getD i 0 != b.getD i 0) = true := by simpa using he
    rw [e134_l0]
    simp only [Int.toNat_natCast, e1]
    simp (disch := first | omega | assumption | (rw [decide_eq_true_eq]; omega) | (rw [decide_eq_false_iff_not]; omega)) only [↓if_pos, ↓if_neg, if_true, if_false, wrap_up, Int.toNat_natCast, Nat.zero_add]
theorem equal2_ok (a b : List Int) (hb : a.length ≤ 4611686018427387904) : CallOk tb Try.prog 134 (a134 a b) (.v (.bool (same3 a b))) [.dead, .dead] := by
  refine fn134 a b ?_
  have no : ¬ a = b → (some (.v (.bool (same3 a b)), [.dead, .dead]) : EvR) = noE := fun h => by
    rw [show same3 a b = false from decide_eq_false h]
  by_cases hl : a.length = b.length
  · refine Goes.ends (k' := k134_l0) (s' := s134_l0 a b a.length (0 : Nat)) (.step fun J => ?_) ?_
    · rw [e134, if_neg (by simp [hl])]
      rfl
    refine Ends.all (rF := noE) (fun i => s134_l0 a b a.length i) a.length (fun i => a.getD i 0 = b.getD i 0) (fun i hi hp => (Equal2.at hl hb hi).1 hp) (fun i hi hp => (Equal2.at hl hb hi).2 hp) (fun hall => ?_) (fun hx => no fun e => hx fun i _ => by rw [e])
    have : a = b := List.ext_getElem hl fun i h1 h2 => by
      have := hall i h1
      rw [List.getD_eq_getElem?_getD, List.getD_eq_getElem?_getD, List.getElem?_eq_getElem h1, List.getElem?_eq_getElem h2] at this
      exact this
    rw [show same3 a b = true from decide_eq_true this]
    refine Goes.ends (k' := k134_j0) (s' := s134_j0 a b) (.step fun J => ?_) (.step fun J => e134_j0 ..)
    rw [e134_l0]
    simp (disch := first | omega | assumption | (rw [decide_eq_true_eq]; omega) | (rw [decide_eq_false_iff_not]; omega)) only [↓if_pos, ↓if_neg, if_true, if_false, wrap_up, Int.toNat_natCast, Nat.zero_add]
  · rw [no fun e => hl (by rw [e])]
    refine .step fun J => ?_
    rw [e134]
    rw [if_pos (by simp; omega)]
def S134 : List (AV Ty) → T (AV Ty × List (AV Ty))
  | [.sl false 2 a, .sl false 2 b] => .ite (a.length ≤ 4611686018427387904) inferInstance (.ret (.v (.bool (same3 a b)), [.dead, .dead])) .fail
  | _ => .fail
theorem S134_ok (l : List (AV Ty)) (r : AV Ty) (outs : List (AV Ty)) (h : (S134 l).val = some (r, outs)) : CallOk tb Try.prog 134 l r outs := by
  unfold S134 at h
  split at h
  · rcases ite_val h with ⟨e, h⟩ | ⟨_, h⟩
    · cases h; exact equal2_ok _ _ e
    · cases h
  · cases h
end Go.Proofs.Ytggibjbcbicpjaa.Ev
