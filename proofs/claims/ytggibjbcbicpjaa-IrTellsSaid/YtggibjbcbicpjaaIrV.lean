/- slices.EqualFunc over a module's parts; ir.SameFunc, ir.Same: what they come to. -/
import Derived.Test.YtggibjbcbicpjaaIrU
namespace Go.Proofs.Ytggibjbcbicpjaa.Ev
open Go
set_option linter.unusedVariables false
set_option linter.unusedSimpArgs false
abbrev no3 : EvR := some (.v (.bool false), [.dead, .dead, .dead])
def eqIns (a b : List Ev.Ins) : Bool := decide (a = b)
def eqX (a b : List Ev.Extern) : Bool := decide (a.length = b.length ∧ ∀ i, i < a.length → sameX (a.getD i (Extern.mk ByteArray.empty [] 0)) (b.getD i (Extern.mk ByteArray.empty [] 0)) = true)
def eqG (a b : List Ev.Global) : Bool := decide (a.length = b.length ∧ ∀ i, i < a.length → sameG (a.getD i (Global.mk ByteArray.empty [])) (b.getD i (Global.mk ByteArray.empty [])) = true)
def eqT (a b : List Ev.Table) : Bool := decide (a.length = b.length ∧ ∀ i, i < a.length → sameT (a.getD i (Table.mk ByteArray.empty [])) (b.getD i (Table.mk ByteArray.empty [])) = true)
def eqF (a b : List Ev.Func) : Bool := decide (a.length = b.length ∧ ∀ i, i < a.length → sameFun (a.getD i (Func.mk ByteArray.empty false [] 0 [])) (b.getD i (Func.mk ByteArray.empty false [] 0 [])) = true)
theorem ins_ext {a b : List Ev.Ins} : a = b ↔ a.length = b.length ∧ ∀ i, i < a.length → sameIns (a.getD i (Ins.mk 0 0 0 0 0 [] [])) (b.getD i (Ins.mk 0 0 0 0 0 [] [])) = true := by
  constructor
  · intro e
    subst e
    exact ⟨rfl, fun i _ => (sameIns_eq _ _).2 rfl⟩
  · intro ⟨hl, h⟩
    refine List.ext_getElem hl fun i h1 h2 => ?_
    have := (sameIns_eq _ _).1 (h i h1)
    rw [List.getD_eq_getElem?_getD, List.getD_eq_getElem?_getD, List.getElem?_eq_getElem h1, List.getElem?_eq_getElem h2] at this
    exact this
def cI (a : List Ev.Ins) : Prop := a.length ≤ 1000 ∧ ∀ x, x ∈ a → okIns x
instance cI.dec (a : List Ev.Ins) : Decidable (cI a) := by unfold cI; infer_instance
noncomputable def b95 : Code := bodyOf Try.f95
noncomputable def C95 : Cfg Ty := ⟨fun
  | 96 => some ([], S96)
  | _ => none, fun _ => false, 32, 0⟩
def U95 : Cuts := ⟨fun
  | 0 => some []
  | _ => none, fun
  | 0 => some [(1, none), (2, none), (15, none), (16, none), (17, none)]
  | _ => none, fun _ => none⟩
noncomputable def k95_j0 : List Item := [.code (sndC (sndC (sndC b95)))]
noncomputable def k95_l0 : List Item := [.code (inC (inC (sndC (fstC (sndC (sndC b95)))))), .inLoop (inC (inC (sndC (fstC (sndC (sndC b95)))))), .inBlock 0, .code (sndC (sndC (sndC b95)))]
def a95 (a : List Ins) (b : List Ins) : List (AV Ty) := [.sl false (46 : Nat) a, .sl false (46 : Nat) b, .v (.func (Fn.func (96 : FuncId)) #[] #[])]
noncomputable def R95 (a : List Ins) (b : List Ins) : St Ty → EvR := resT tb C95 Try.f95.results.toList .keep (a95 a b)
def s95_l0 (a : List Ins) (b : List Ins) (v15 : List Ins) (v16 : Int) (v17 : Int) : St Ty := St.mk [(1, .sl false (46) b), (2, .v (.func (Fn.func (96 : FuncId)) (Array.mk []) (Array.mk []))), (15, .sl false (46) v15), (16, .v (.int .i64 v16)), (17, .v (.int .i64 v17))] []
def s95_j0 (a : List Ins) (b : List Ins)  : St Ty := St.mk [] []
theorem e95 (J a b) : run tb C95 U95 J (R95 a b) 4096 [.code b95] ⟨slotsA (a95 a b) 0 0, heapA (a95 a b)⟩ =
 if ((↑a.length : Int) != (↑b.length : Int)) = true then
 some (.v (.bool false), [.dead, .dead, .dead])
 else
 J k95_l0 (s95_l0 a b a ((↑a.length : Int)) 0) := by kernel_rfl
theorem e95_l0 (J a b v15 v16 v17) : run tb C95 U95 J (R95 a b) 4096 k95_l0 (s95_l0 a b v15 v16 v17) =
 if decide (v17 < v16) = true then
 if 0 ≤ v17 then
 if v17 < (↑v15.length : Int) then
 if 0 ≤ v17 then
 if v17 < (↑b.length : Int) then
 if okIns (Ins.mk (v15.getD v17.toNat (Ins.mk 0 0 0 0 0 [] [])).op (v15.getD v17.toNat (Ins.mk 0 0 0 0 0 [] [])).type_ (v15.getD v17.toNat (Ins.mk 0 0 0 0 0 [] [])).to_ (v15.getD v17.toNat (Ins.mk 0 0 0 0 0 [] [])).sym_ (v15.getD v17.toNat (Ins.mk 0 0 0 0 0 [] [])).num (v15.getD v17.toNat (Ins.mk 0 0 0 0 0 [] [])).args (v15.getD v17.toNat (Ins.mk 0 0 0 0 0 [] [])).into) then
 if (!sameIns (Ins.mk (v15.getD v17.toNat (Ins.mk 0 0 0 0 0 [] [])).op (v15.getD v17.toNat (Ins.mk 0 0 0 0 0 [] [])).type_ (v15.getD v17.toNat (Ins.mk 0 0 0 0 0 [] [])).to_ (v15.getD v17.toNat (Ins.mk 0 0 0 0 0 [] [])).sym_ (v15.getD v17.toNat (Ins.mk 0 0 0 0 0 [] [])).num (v15.getD v17.toNat (Ins.mk 0 0 0 0 0 [] [])).args (v15.getD v17.toNat (Ins.mk 0 0 0 0 0 [] [])).into) (Ins.mk (b.getD v17.toNat (Ins.mk 0 0 0 0 0 [] [])).op (b.getD v17.toNat (Ins.mk 0 0 0 0 0 [] [])).type_ (b.getD v17.toNat (Ins.mk 0 0 0 0 0 [] [])).to_ (b.getD v17.toNat (Ins.mk 0 0 0 0 0 [] [])).sym_ (b.getD v17.toNat (Ins.mk 0 0 0 0 0 [] [])).num (b.getD v17.toNat (Ins.mk 0 0 0 0 0 [] [])).args (b.getD v17.toNat (Ins.mk 0 0 0 0 0 [] [])).into)) = true then
 some (.v (.bool false), [.dead, .dead, .dead])
 else
 J k95_l0 (s95_l0 a b v15 v16 (IntKind.i64.wrap (v17 + 1)))
 else none
 else none
 else none
 else none
 else none
 else
 J k95_j0 (s95_j0 a b) := by kernel_rfl
theorem e95_j0 (J a b) : run tb C95 U95 J (R95 a b) 4096 k95_j0 (s95_j0 a b) =
 some (.v (.bool true), [.dead, .dead, .dead]) := by kernel_rfl

theorem in95 : Entered 95 := ⟨Try.f95, b95, by kernel_rfl, by kernel_rfl, by kernel_rfl⟩
theorem fn95 (a b : List Ev.Ins) {res : AV Ty} {outs : List (AV Ty)} (h : Ends C95 U95 (R95 a b) [.code b95] ⟨slotsA (a95 a b) 0 0, heapA (a95 a b)⟩ (some (res, outs))) : CallOk tb Try.prog 95 (a95 a b) res outs := by
  obtain ⟨n0, hn⟩ := h
  exact fn_ok (C := C95) (U := U95) (n := 0 + n0) (q := .keep) tbOk good (fun f mu S h => by
    unfold C95 at h
    simp only at h
    split at h
    · cases h; exact ⟨in96, S96_ok⟩
    · cases h) mixed (fn := Try.f95) (body := b95) (by kernel_rfl) (by kernel_rfl) rfl rfl (by show 3 ≤ 32; omega) (hn 0)
theorem EqfI.at {a b : List Ev.Ins} (hl : a.length = b.length) (h : cI a) {i : Nat} (hi : i < a.length) : (sameIns (a.getD i (Ins.mk 0 0 0 0 0 [] [])) (b.getD i (Ins.mk 0 0 0 0 0 [] [])) = true → Goes C95 U95 (R95 a b) k95_l0 (s95_l0 a b a a.length i) k95_l0 (s95_l0 a b a a.length (i + 1 : Nat))) ∧ (¬ sameIns (a.getD i (Ins.mk 0 0 0 0 0 [] [])) (b.getD i (Ins.mk 0 0 0 0 0 [] [])) = true → Ends C95 U95 (R95 a b) k95_l0 (s95_l0 a b a a.length i) no3) := by
  have h1 := h.1
  have h2 := h.2 _ (getD_mem (d := (Ins.mk 0 0 0 0 0 [] [])) hi)
  have e1 : Ins.mk (a.getD i (Ins.mk 0 0 0 0 0 [] [])).op (a.getD i (Ins.mk 0 0 0 0 0 [] [])).type_ (a.getD i (Ins.mk 0 0 0 0 0 [] [])).to_ (a.getD i (Ins.mk 0 0 0 0 0 [] [])).sym_ (a.getD i (Ins.mk 0 0 0 0 0 [] [])).num (a.getD i (Ins.mk 0 0 0 0 0 [] [])).args (a.getD i (Ins.mk 0 0 0 0 0 [] [])).into = a.getD i (Ins.mk 0 0 0 0 0 [] []) := rfl
  have e2 : Ins.mk (b.getD i (Ins.mk 0 0 0 0 0 [] [])).op (b.getD i (Ins.mk 0 0 0 0 0 [] [])).type_ (b.getD i (Ins.mk 0 0 0 0 0 [] [])).to_ (b.getD i (Ins.mk 0 0 0 0 0 [] [])).sym_ (b.getD i (Ins.mk 0 0 0 0 0 [] [])).num (b.getD i (Ins.mk 0 0 0 0 0 [] [])).args (b.getD i (Ins.mk 0 0 0 0 0 [] [])).into = b.getD i (Ins.mk 0 0 0 0 0 [] []) := rfl
  have key : ∀ (J : List Item → St Ty → EvR), run tb C95 U95 J (R95 a b) 4096 k95_l0 (s95_l0 a b a a.length i) = if sameIns (a.getD i (Ins.mk 0 0 0 0 0 [] [])) (b.getD i (Ins.mk 0 0 0 0 0 [] [])) = true then J k95_l0 (s95_l0 a b a a.length (i + 1 : Nat)) else no3 := fun J => by
    rw [e95_l0]
    simp only [Int.toNat_natCast]
    simp only [e1, e2]
    simp (disch := first | omega | assumption | (rw [decide_eq_true_eq]; omega) | (rw [decide_eq_false_iff_not]; omega)) only [↓if_pos, ↓if_neg, if_true, if_false, wrap_up, Int.toNat_natCast, Nat.zero_add]
    cases sameIns (a.getD i (Ins.mk 0 0 0 0 0 [] [])) (b.getD i (Ins.mk 0 0 0 0 0 [] [])) <;> simp <;> rfl
  exact ⟨fun e => .step fun J => by rw [key, if_pos e], fun e => .step fun J => by rw [key, if_neg e]⟩
theorem eqfI_ok (a b : List Ev.Ins) (h : cI a) : CallOk tb Try.prog 95 (a95 a b) (.v (.bool (eqIns a b))) [.dead, .dead, .dead] := by
  refine fn95 a b ?_
  have no : ¬ (a.length = b.length ∧ ∀ i, i < a.length → sameIns (a.getD i (Ins.mk 0 0 0 0 0 [] [])) (b.getD i (Ins.mk 0 0 0 0 0 [] [])) = true) → (some (.v (.bool (eqIns a b)), [.dead, .dead, .dead]) : EvR) = no3 := fun h => by
    rw [show eqIns a b = false from decide_eq_false fun e => h (ins_ext.1 e)]
  by_cases hl : a.length = b.length
  · refine Goes.ends (k' := k95_l0) (s' := s95_l0 a b a a.length (0 : Nat)) (.step fun J => ?_) ?_
    · rw [e95, if_neg (by simp [hl])]
      rfl
    refine Ends.all (rF := no3) (fun i => s95_l0 a b a a.length i) a.length (fun i => sameIns (a.getD i (Ins.mk 0 0 0 0 0 [] [])) (b.getD i (Ins.mk 0 0 0 0 0 [] [])) = true) (fun i hi hp => (EqfI.at hl h hi).1 hp) (fun i hi hp => (EqfI.at hl h hi).2 hp) (fun hall => ?_) (fun hx => no fun e => hx e.2)
    rw [show eqIns a b = true from decide_eq_true (ins_ext.2 ⟨hl, hall⟩)]
    refine Goes.ends (k' := k95_j0) (s' := s95_j0 a b) (.step fun J => ?_) (.step fun J => e95_j0 ..)
    rw [e95_l0]
    simp (disch := first | omega | assumption | (rw [decide_eq_true_eq]; omega) | (rw [decide_eq_false_iff_not]; omega)) only [↓if_pos, ↓if_neg, if_true, if_false, wrap_up, Int.toNat_natCast, Nat.zero_add]
  · rw [no fun e => hl e.1]
    refine .step fun J => ?_
    rw [e95]
    rw [if_pos (by simp; omega)]
def S95 : List (AV Ty) → T (AV Ty × List (AV Ty))
  | [.sl false 46 a, .sl false 46 b, .v (.func (.func 96) ⟨[]⟩ ⟨[]⟩)] => .ite (cI a) (cI.dec a) (.ret (.v (.bool (eqIns a b)), [.dead, .dead, .dead])) .fail
  | _ => .fail
theorem S95_ok (l : List (AV Ty)) (r : AV Ty) (outs : List (AV Ty)) (h : (S95 l).val = some (r, outs)) : CallOk tb Try.prog 95 l r outs := by
  unfold S95 at h
  split at h
  · rename_i a b
    rcases ite_val h with ⟨e, h⟩ | ⟨_, h⟩
    · cases h; exact eqfI_ok a b e
    · cases h
  · cases h
def cX (a : List Ev.Extern) : Prop := a.length ≤ 1000 ∧ ∀ x, x ∈ a → x.params.length ≤ 1000
instance cX.dec (a : List Ev.Extern) : Decidable (cX a) := by unfold cX; infer_instance
noncomputable def b86 : Code := bodyOf Try.f86
noncomputable def C86 : Cfg Ty := ⟨fun
  | 87 => some ([], S87)
  | _ => none, fun _ => false, 32, 0⟩
def U86 : Cuts := ⟨fun
  | 0 => some []
  | _ => none, fun
  | 0 => some [(1, none), (2, none), (15, none), (16, none), (17, none)]
  | _ => none, fun _ => none⟩
noncomputable def k86_j0 : List Item := [.code (sndC (sndC (sndC b86)))]
noncomputable def k86_l0 : List Item := [.code (inC (inC (sndC (fstC (sndC (sndC b86)))))), .inLoop (inC (inC (sndC (fstC (sndC (sndC b86)))))), .inBlock 0, .code (sndC (sndC (sndC b86)))]
def a86 (a : List Extern) (b : List Extern) : List (AV Ty) := [.sl false (91 : Nat) a, .sl false (91 : Nat) b, .v (.func (Fn.func (87 : FuncId)) #[] #[])]
noncomputable def R86 (a : List Extern) (b : List Extern) : St Ty → EvR := resT tb C86 Try.f86.results.toList .keep (a86 a b)
def s86_l0 (a : List Extern) (b : List Extern) (v15 : List Extern) (v16 : Int) (v17 : Int) : St Ty := St.mk [(1, .sl false (91) b), (2, .v (.func (Fn.func (87 : FuncId)) (Array.mk []) (Array.mk []))), (15, .sl false (91) v15), (16, .v (.int .i64 v16)), (17, .v (.int .i64 v17))] []
def s86_j0 (a : List Extern) (b : List Extern)  : St Ty := St.mk [] []
theorem e86 (J a b) : run tb C86 U86 J (R86 a b) 4096 [.code b86] ⟨slotsA (a86 a b) 0 0, heapA (a86 a b)⟩ =
 if ((↑a.length : Int) != (↑b.length : Int)) = true then
 some (.v (.bool false), [.dead, .dead, .dead])
 else
 J k86_l0 (s86_l0 a b a ((↑a.length : Int)) 0) := by kernel_rfl
theorem e86_l0 (J a b v15 v16 v17) : run tb C86 U86 J (R86 a b) 4096 k86_l0 (s86_l0 a b v15 v16 v17) =
 if decide (v17 < v16) = true then
 if 0 ≤ v17 then
 if v17 < (↑v15.length : Int) then
 if 0 ≤ v17 then
 if v17 < (↑b.length : Int) then
 if (v15.getD v17.toNat (Extern.mk ByteArray.empty [] 0)).params.length ≤ 4611686018427387904 then
 if (!sameX (Extern.mk (v15.getD v17.toNat (Extern.mk ByteArray.empty [] 0)).name (v15.getD v17.toNat (Extern.mk ByteArray.empty [] 0)).params (v15.getD v17.toNat (Extern.mk ByteArray.empty [] 0)).result) (Extern.mk (b.getD v17.toNat (Extern.mk ByteArray.empty [] 0)).name (b.getD v17.toNat (Extern.mk ByteArray.empty [] 0)).params (b.getD v17.toNat (Extern.mk ByteArray.empty [] 0)).result)) = true then
 some (.v (.bool false), [.dead, .dead, .dead])
 else
 J k86_l0 (s86_l0 a b v15 v16 (IntKind.i64.wrap (v17 + 1)))
 else none
 else none
 else none
 else none
 else none
 else
 J k86_j0 (s86_j0 a b) := by kernel_rfl
theorem e86_j0 (J a b) : run tb C86 U86 J (R86 a b) 4096 k86_j0 (s86_j0 a b) =
 some (.v (.bool true), [.dead, .dead, .dead]) := by kernel_rfl

theorem in86 : Entered 86 := ⟨Try.f86, b86, by kernel_rfl, by kernel_rfl, by kernel_rfl⟩
theorem fn86 (a b : List Ev.Extern) {res : AV Ty} {outs : List (AV Ty)} (h : Ends C86 U86 (R86 a b) [.code b86] ⟨slotsA (a86 a b) 0 0, heapA (a86 a b)⟩ (some (res, outs))) : CallOk tb Try.prog 86 (a86 a b) res outs := by
  obtain ⟨n0, hn⟩ := h
  exact fn_ok (C := C86) (U := U86) (n := 0 + n0) (q := .keep) tbOk good (fun f mu S h => by
    unfold C86 at h
    simp only at h
    split at h
    · cases h; exact ⟨in87, S87_ok⟩
    · cases h) mixed (fn := Try.f86) (body := b86) (by kernel_rfl) (by kernel_rfl) rfl rfl (by show 3 ≤ 32; omega) (hn 0)
theorem EqfX.at {a b : List Ev.Extern} (hl : a.length = b.length) (h : cX a) {i : Nat} (hi : i < a.length) : (sameX (a.getD i (Extern.mk ByteArray.empty [] 0)) (b.getD i (Extern.mk ByteArray.empty [] 0)) = true → Goes C86 U86 (R86 a b) k86_l0 (s86_l0 a b a a.length i) k86_l0 (s86_l0 a b a a.length (i + 1 : Nat))) ∧ (¬ sameX (a.getD i (Extern.mk ByteArray.empty [] 0)) (b.getD i (Extern.mk ByteArray.empty [] 0)) = true → Ends C86 U86 (R86 a b) k86_l0 (s86_l0 a b a a.length i) no3) := by
  have h1 := h.1
  have h2 := h.2 _ (getD_mem (d := (Extern.mk ByteArray.empty [] 0)) hi)
  have e1 : Extern.mk (a.getD i (Extern.mk ByteArray.empty [] 0)).name (a.getD i (Extern.mk ByteArray.empty [] 0)).params (a.getD i (Extern.mk ByteArray.empty [] 0)).result = a.getD i (Extern.mk ByteArray.empty [] 0) := rfl
  have e2 : Extern.mk (b.getD i (Extern.mk ByteArray.empty [] 0)).name (b.getD i (Extern.mk ByteArray.empty [] 0)).params (b.getD i (Extern.mk ByteArray.empty [] 0)).result = b.getD i (Extern.mk ByteArray.empty [] 0) := rfl
  have key : ∀ (J : List Item → St Ty → EvR), run tb C86 U86 J (R86 a b) 4096 k86_l0 (s86_l0 a b a a.length i) = if sameX (a.getD i (Extern.mk ByteArray.empty [] 0)) (b.getD i (Extern.mk ByteArray.empty [] 0)) = true then J k86_l0 (s86_l0 a b a a.length (i + 1 : Nat)) else no3 := fun J => by
    rw [e86_l0]
    simp only [Int.toNat_natCast]
    simp only [e1, e2]
    simp (disch := first | omega | assumption | (rw [decide_eq_true_eq]; omega) | (rw [decide_eq_false_iff_not]; omega)) only [↓if_pos, ↓if_neg, if_true, if_false, wrap_up, Int.toNat_natCast, Nat.zero_add]
    cases sameX (a.getD i (Extern.mk ByteArray.empty [] 0)) (b.getD i (Extern.mk ByteArray.empty [] 0)) <;> simp <;> rfl
  exact ⟨fun e => .step fun J => by rw [key, if_pos e], fun e => .step fun J => by rw [key, if_neg e]⟩
theorem eqfX_ok (a b : List Ev.Extern) (h : cX a) : CallOk tb Try.prog 86 (a86 a b) (.v (.bool (eqX a b))) [.dead, .dead, .dead] := by
  refine fn86 a b ?_
  have no : ¬ (a.length = b.length ∧ ∀ i, i < a.length → sameX (a.getD i (Extern.mk ByteArray.empty [] 0)) (b.getD i (Extern.mk ByteArray.empty [] 0)) = true) → (some (.v (.bool (eqX a b)), [.dead, .dead, .dead]) : EvR) = no3 := fun h => by
    rw [show eqX a b = false from decide_eq_false fun e => h (e)]
  by_cases hl : a.length = b.length
  · refine Goes.ends (k' := k86_l0) (s' := s86_l0 a b a a.length (0 : Nat)) (.step fun J => ?_) ?_
    · rw [e86, if_neg (by simp [hl])]
      rfl
    refine Ends.all (rF := no3) (fun i => s86_l0 a b a a.length i) a.length (fun i => sameX (a.getD i (Extern.mk ByteArray.empty [] 0)) (b.getD i (Extern.mk ByteArray.empty [] 0)) = true) (fun i hi hp => (EqfX.at hl h hi).1 hp) (fun i hi hp => (EqfX.at hl h hi).2 hp) (fun hall => ?_) (fun hx => no fun e => hx e.2)
    rw [show eqX a b = true from decide_eq_true (⟨hl, hall⟩)]
    refine Goes.ends (k' := k86_j0) (s' := s86_j0 a b) (.step fun J => ?_) (.step fun J => e86_j0 ..)
    rw [e86_l0]
    simp (disch := first | omega | assumption | (rw [decide_eq_true_eq]; omega) | (rw [decide_eq_false_iff_not]; omega)) only [↓if_pos, ↓if_neg, if_true, if_false, wrap_up, Int.toNat_natCast, Nat.zero_add]
  · rw [no fun e => hl e.1]
    refine .step fun J => ?_
    rw [e86]
    rw [if_pos (by simp; omega)]
def S86 : List (AV Ty) → T (AV Ty × List (AV Ty))
  | [.sl false 91 a, .sl false 91 b, .v (.func (.func 87) ⟨[]⟩ ⟨[]⟩)] => .ite (cX a) (cX.dec a) (.ret (.v (.bool (eqX a b)), [.dead, .dead, .dead])) .fail
  | _ => .fail
theorem S86_ok (l : List (AV Ty)) (r : AV Ty) (outs : List (AV Ty)) (h : (S86 l).val = some (r, outs)) : CallOk tb Try.prog 86 l r outs := by
  unfold S86 at h
  split at h
  · rename_i a b
    rcases ite_val h with ⟨e, h⟩ | ⟨_, h⟩
    · cases h; exact eqfX_ok a b e
    · cases h
  · cases h
def cG (a : List Ev.Global) : Prop := a.length ≤ 1000 ∧ ∀ x, x ∈ a → x.cells.length ≤ 1000
instance cG.dec (a : List Ev.Global) : Decidable (cG a) := by unfold cG; infer_instance
noncomputable def b88 : Code := bodyOf Try.f88
noncomputable def C88 : Cfg Ty := ⟨fun
  | 89 => some ([], S89)
  | _ => none, fun _ => false, 32, 0⟩
def U88 : Cuts := ⟨fun
  | 0 => some []
  | _ => none, fun
  | 0 => some [(1, none), (2, none), (15, none), (16, none), (17, none)]
  | _ => none, fun _ => none⟩
noncomputable def k88_j0 : List Item := [.code (sndC (sndC (sndC b88)))]
noncomputable def k88_l0 : List Item := [.code (inC (inC (sndC (fstC (sndC (sndC b88)))))), .inLoop (inC (inC (sndC (fstC (sndC (sndC b88)))))), .inBlock 0, .code (sndC (sndC (sndC b88)))]
def a88 (a : List Global) (b : List Global) : List (AV Ty) := [.sl false (94 : Nat) a, .sl false (94 : Nat) b, .v (.func (Fn.func (89 : FuncId)) #[] #[])]
noncomputable def R88 (a : List Global) (b : List Global) : St Ty → EvR := resT tb C88 Try.f88.results.toList .keep (a88 a b)
def s88_l0 (a : List Global) (b : List Global) (v15 : List Global) (v16 : Int) (v17 : Int) : St Ty := St.mk [(1, .sl false (94) b), (2, .v (.func (Fn.func (89 : FuncId)) (Array.mk []) (Array.mk []))), (15, .sl false (94) v15), (16, .v (.int .i64 v16)), (17, .v (.int .i64 v17))] []
def s88_j0 (a : List Global) (b : List Global)  : St Ty := St.mk [] []
theorem e88 (J a b) : run tb C88 U88 J (R88 a b) 4096 [.code b88] ⟨slotsA (a88 a b) 0 0, heapA (a88 a b)⟩ =
 if ((↑a.length : Int) != (↑b.length : Int)) = true then
 some (.v (.bool false), [.dead, .dead, .dead])
 else
 J k88_l0 (s88_l0 a b a ((↑a.length : Int)) 0) := by kernel_rfl
theorem e88_l0 (J a b v15 v16 v17) : run tb C88 U88 J (R88 a b) 4096 k88_l0 (s88_l0 a b v15 v16 v17) =
 if decide (v17 < v16) = true then
 if 0 ≤ v17 then
 if v17 < (↑v15.length : Int) then
 if 0 ≤ v17 then
 if v17 < (↑b.length : Int) then
 if (v15.getD v17.toNat (Global.mk ByteArray.empty [])).cells.length ≤ 4611686018427387904 then
 if (!sameG (Global.mk (v15.getD v17.toNat (Global.mk ByteArray.empty [])).name (v15.getD v17.toNat (Global.mk ByteArray.empty [])).cells) (Global.mk (b.getD v17.toNat (Global.mk ByteArray.empty [])).name (b.getD v17.toNat (Global.mk ByteArray.empty [])).cells)) = true then
 some (.v (.bool false), [.dead, .dead, .dead])
 else
 J k88_l0 (s88_l0 a b v15 v16 (IntKind.i64.wrap (v17 + 1)))
 else none
 else none
 else none
 else none
 else none
 else
 J k88_j0 (s88_j0 a b) := by kernel_rfl
theorem e88_j0 (J a b) : run tb C88 U88 J (R88 a b) 4096 k88_j0 (s88_j0 a b) =
 some (.v (.bool true), [.dead, .dead, .dead]) := by kernel_rfl

theorem in88 : Entered 88 := ⟨Try.f88, b88, by kernel_rfl, by kernel_rfl, by kernel_rfl⟩
theorem fn88 (a b : List Ev.Global) {res : AV Ty} {outs : List (AV Ty)} (h : Ends C88 U88 (R88 a b) [.code b88] ⟨slotsA (a88 a b) 0 0, heapA (a88 a b)⟩ (some (res, outs))) : CallOk tb Try.prog 88 (a88 a b) res outs := by
  obtain ⟨n0, hn⟩ := h
  exact fn_ok (C := C88) (U := U88) (n := 0 + n0) (q := .keep) tbOk good (fun f mu S h => by
    unfold C88 at h
    simp only at h
    split at h
    · cases h; exact ⟨in89, S89_ok⟩
    · cases h) mixed (fn := Try.f88) (body := b88) (by kernel_rfl) (by kernel_rfl) rfl rfl (by show 3 ≤ 32; omega) (hn 0)
theorem EqfG.at {a b : List Ev.Global} (hl : a.length = b.length) (h : cG a) {i : Nat} (hi : i < a.length) : (sameG (a.getD i (Global.mk ByteArray.empty [])) (b.getD i (Global.mk ByteArray.empty [])) = true → Goes C88 U88 (R88 a b) k88_l0 (s88_l0 a b a a.length i) k88_l0 (s88_l0 a b a a.length (i + 1 : Nat))) ∧ (¬ sameG (a.getD i (Global.mk ByteArray.empty [])) (b.getD i (Global.mk ByteArray.empty [])) = true → Ends C88 U88 (R88 a b) k88_l0 (s88_l0 a b a a.length i) no3) := by
  have h1 := h.1
  have h2 := h.2 _ (getD_mem (d := (Global.mk ByteArray.empty [])) hi)
  have e1 : Global.mk (a.getD i (Global.mk ByteArray.empty [])).name (a.getD i (Global.mk ByteArray.empty [])).cells = a.getD i (Global.mk ByteArray.empty []) := rfl
  have e2 : Global.mk (b.getD i (Global.mk ByteArray.empty [])).name (b.getD i (Global.mk ByteArray.empty [])).cells = b.getD i (Global.mk ByteArray.empty []) := rfl
  have key : ∀ (J : List Item → St Ty → EvR), run tb C88 U88 J (R88 a b) 4096 k88_l0 (s88_l0 a b a a.length i) = if sameG (a.getD i (Global.mk ByteArray.empty [])) (b.getD i (Global.mk ByteArray.empty [])) = true then J k88_l0 (s88_l0 a b a a.length (i + 1 : Nat)) else no3 := fun J => by
    rw [e88_l0]
    simp only [Int.toNat_natCast]
    simp only [e1, e2]
    simp (disch := first | omega | assumption | (rw [decide_eq_true_eq]; omega) | (rw [decide_eq_false_iff_not]; omega)) only [↓if_pos, ↓if_neg, if_true, if_false, wrap_up, Int.toNat_natCast, Nat.zero_add]
    cases sameG (a.getD i (Global.mk ByteArray.empty [])) (b.getD i (Global.mk ByteArray.empty [])) <;> simp <;> rfl
  exact ⟨fun e => .step fun J => by rw [key, if_pos e], fun e => .step fun J => by rw [key, if_neg e]⟩
theorem eqfG_ok (a b : List Ev.Global) (h : cG a) : CallOk tb Try.prog 88 (a88 a b) (.v (.bool (eqG a b))) [.dead, .dead, .dead] := by
  refine fn88 a b ?_
  have no : ¬ (a.length = b.length ∧ ∀ i, i < a.length → sameG (a.getD i (Global.mk ByteArray.empty [])) (b.getD i (Global.mk ByteArray.empty [])) = true) → (some (.v (.bool (eqG a b)), [.dead, .dead, .dead]) : EvR) = no3 := fun h => by
    rw [show eqG a b = false from decide_eq_false fun e => h (e)]
  by_cases hl : a.length = b.length
  · refine Goes.ends (k' := k88_l0) (s' := s88_l0 a b a a.length (0 : Nat)) (.step fun J => ?_) ?_
    · rw [e88, if_neg (by simp [hl])]
      rfl
    refine Ends.all (rF := no3) (fun i => s88_l0 a b a a.length i) a.length (fun i => sameG (a.getD i (Global.mk ByteArray.empty [])) (b.getD i (Global.mk ByteArray.empty [])) = true) (fun i hi hp => (EqfG.at hl h hi).1 hp) (fun i hi hp => (EqfG.at hl h hi).2 hp) (fun hall => ?_) (fun hx => no fun e => hx e.2)
    rw [show eqG a b = true from decide_eq_true (⟨hl, hall⟩)]
    refine Goes.ends (k' := k88_j0) (s' := s88_j0 a b) (.step fun J => ?_) (.step fun J => e88_j0 ..)
    rw [e88_l0]
    simp (disch := first | omega | assumption | (rw [decide_eq_true_eq]; omega) | (rw [decide_eq_false_iff_not]; omega)) only [↓if_pos, ↓if_neg, if_true, if_false, wrap_up, Int.toNat_natCast, Nat.zero_add]
  · rw [no fun e => hl e.1]
    refine .step fun J => ?_
    rw [e88]
    rw [if_pos (by simp; omega)]
def S88 : List (AV Ty) → T (AV Ty × List (AV Ty))
  | [.sl false 94 a, .sl false 94 b, .v (.func (.func 89) ⟨[]⟩ ⟨[]⟩)] => .ite (cG a) (cG.dec a) (.ret (.v (.bool (eqG a b)), [.dead, .dead, .dead])) .fail
  | _ => .fail
theorem S88_ok (l : List (AV Ty)) (r : AV Ty) (outs : List (AV Ty)) (h : (S88 l).val = some (r, outs)) : CallOk tb Try.prog 88 l r outs := by
  unfold S88 at h
  split at h
  · rename_i a b
    rcases ite_val h with ⟨e, h⟩ | ⟨_, h⟩
    · cases h; exact eqfG_ok a b e
    · cases h
  · cases h
def cT (a : List Ev.Table) : Prop := a.length ≤ 1000 ∧ ∀ x, x ∈ a → x.funcs.length ≤ 1000
instance cT.dec (a : List Ev.Table) : Decidable (cT a) := by unfold cT; infer_instance
noncomputable def b90 : Code := bodyOf Try.f90
noncomputable def C90 : Cfg Ty := ⟨fun
  | 91 => some ([], S91)
  | _ => none, fun _ => false, 32, 0⟩
def U90 : Cuts := ⟨fun
  | 0 => some []
  | _ => none, fun
  | 0 => some [(1, none), (2, none), (15, none), (16, none), (17, none)]
  | _ => none, fun _ => none⟩
noncomputable def k90_j0 : List Item := [.code (sndC (sndC (sndC b90)))]
noncomputable def k90_l0 : List Item := [.code (inC (inC (sndC (fstC (sndC (sndC b90)))))), .inLoop (inC (inC (sndC (fstC (sndC (sndC b90)))))), .inBlock 0, .code (sndC (sndC (sndC b90)))]
def a90 (a : List Table) (b : List Table) : List (AV Ty) := [.sl false (96 : Nat) a, .sl false (96 : Nat) b, .v (.func (Fn.func (91 : FuncId)) #[] #[])]
noncomputable def R90 (a : List Table) (b : List Table) : St Ty → EvR := resT tb C90 Try.f90.results.toList .keep (a90 a b)
def s90_l0 (a : List Table) (b : List Table) (v15 : List Table) (v16 : Int) (v17 : Int) : St Ty := St.mk [(1, .sl false (96) b), (2, .v (.func (Fn.func (91 : FuncId)) (Array.mk []) (Array.mk []))), (15, .sl false (96) v15), (16, .v (.int .i64 v16)), (17, .v (.int .i64 v17))] []
def s90_j0 (a : List Table) (b : List Table)  : St Ty := St.mk [] []
theorem e90 (J a b) : run tb C90 U90 J (R90 a b) 4096 [.code b90] ⟨slotsA (a90 a b) 0 0, heapA (a90 a b)⟩ =
 if ((↑a.length : Int) != (↑b.length : Int)) = true then
 some (.v (.bool false), [.dead, .dead, .dead])
 else
 J k90_l0 (s90_l0 a b a ((↑a.length : Int)) 0) := by kernel_rfl
theorem e90_l0 (J a b v15 v16 v17) : run tb C90 U90 J (R90 a b) 4096 k90_l0 (s90_l0 a b v15 v16 v17) =
 if decide (v17 < v16) = true then
 if 0 ≤ v17 then
 if v17 < (↑v15.length : Int) then
 if 0 ≤ v17 then
 if v17 < (↑b.length : Int) then
 if (v15.getD v17.toNat (Table.mk ByteArray.empty [])).funcs.length ≤ 4611686018427387904 then
 if (!sameT (Table.mk (v15.getD v17.toNat (Table.mk ByteArray.empty [])).name (v15.getD v17.toNat (Table.mk ByteArray.empty [])).funcs) (Table.mk (b.getD v17.toNat (Table.mk ByteArray.empty [])).name (b.getD v17.toNat (Table.mk ByteArray.empty [])).funcs)) = true then
 some (.v (.bool false), [.dead, .dead, .dead])
 else
 J k90_l0 (s90_l0 a b v15 v16 (IntKind.i64.wrap (v17 + 1)))
 else none
 else none
 else none
 else none
 else none
 else
 J k90_j0 (s90_j0 a b) := by kernel_rfl
theorem e90_j0 (J a b) : run tb C90 U90 J (R90 a b) 4096 k90_j0 (s90_j0 a b) =
 some (.v (.bool true), [.dead, .dead, .dead]) := by kernel_rfl

theorem in90 : Entered 90 := ⟨Try.f90, b90, by kernel_rfl, by kernel_rfl, by kernel_rfl⟩
theorem fn90 (a b : List Ev.Table) {res : AV Ty} {outs : List (AV Ty)} (h : Ends C90 U90 (R90 a b) [.code b90] ⟨slotsA (a90 a b) 0 0, heapA (a90 a b)⟩ (some (res, outs))) : CallOk tb Try.prog 90 (a90 a b) res outs := by
  obtain ⟨n0, hn⟩ := h
  exact fn_ok (C := C90) (U := U90) (n := 0 + n0) (q := .keep) tbOk good (fun f mu S h => by
    unfold C90 at h
    simp only at h
    split at h
    · cases h; exact ⟨in91, S91_ok⟩
    · cases h) mixed (fn := Try.f90) (body := b90) (by kernel_rfl) (by kernel_rfl) rfl rfl (by show 3 ≤ 32; omega) (hn 0)
theorem EqfT.at {a b : List Ev.Table} (hl : a.length = b.length) (h : cT a) {i : Nat} (hi : i < a.length) : (sameT (a.getD i (Table.mk ByteArray.empty [])) (b.getD i (Table.mk ByteArray.empty [])) = true → Goes C90 U90 (R90 a b) k90_l0 (s90_l0 a b a a.length i) k90_l0 (s90_l0 a b a a.length (i + 1 : Nat))) ∧ (¬ sameT (a.getD i (Table.mk ByteArray.empty [])) (b.getD i (Table.mk ByteArray.empty [])) = true → Ends C90 U90 (R90 a b) k90_l0 (s90_l0 a b a a.length i) no3) := by
  have h1 := h.1
  have h2 := h.2 _ (getD_mem (d := (Table.mk ByteArray.empty [])) hi)
  have e1 : Table.mk (a.getD i (Table.mk ByteArray.empty [])).name (a.getD i (Table.mk ByteArray.empty [])).funcs = a.getD i (Table.mk ByteArray.empty []) := rfl
  have e2 : Table.mk (b.getD i (Table.mk ByteArray.empty [])).name (b.getD i (Table.mk ByteArray.empty [])).funcs = b.getD i (Table.mk ByteArray.empty []) := rfl
  have key : ∀ (J : List Item → St Ty → EvR), run tb C90 U90 J (R90 a b) 4096 k90_l0 (s90_l0 a b a a.length i) = if sameT (a.getD i (Table.mk ByteArray.empty [])) (b.getD i (Table.mk ByteArray.empty [])) = true then J k90_l0 (s90_l0 a b a a.length (i + 1 : Nat)) else no3 := fun J => by
    rw [e90_l0]
    simp only [Int.toNat_natCast]
    simp only [e1, e2]
    simp (disch := first | omega | assumption | (rw [decide_eq_true_eq]; omega) | (rw [decide_eq_false_iff_not]; omega)) only [↓if_pos, ↓if_neg, if_true, if_false, wrap_up, Int.toNat_natCast, Nat.zero_add]
    cases sameT (a.getD i (Table.mk ByteArray.empty [])) (b.getD i (Table.mk ByteArray.empty [])) <;> simp <;> rfl
  exact ⟨fun e => .step fun J => by rw [key, if_pos e], fun e => .step fun J => by rw [key, if_neg e]⟩
theorem eqfT_ok (a b : List Ev.Table) (h : cT a) : CallOk tb Try.prog 90 (a90 a b) (.v (.bool (eqT a b))) [.dead, .dead, .dead] := by
  refine fn90 a b ?_
  have no : ¬ (a.length = b.length ∧ ∀ i, i < a.length → sameT (a.getD i (Table.mk ByteArray.empty [])) (b.getD i (Table.mk ByteArray.empty [])) = true) → (some (.v (.bool (eqT a b)), [.dead, .dead, .dead]) : EvR) = no3 := fun h => by
    rw [show eqT a b = false from decide_eq_false fun e => h (e)]
  by_cases hl : a.length = b.length
  · refine Goes.ends (k' := k90_l0) (s' := s90_l0 a b a a.length (0 : Nat)) (.step fun J => ?_) ?_
    · rw [e90, if_neg (by simp [hl])]
      rfl
    refine Ends.all (rF := no3) (fun i => s90_l0 a b a a.length i) a.length (fun i => sameT (a.getD i (Table.mk ByteArray.empty [])) (b.getD i (Table.mk ByteArray.empty [])) = true) (fun i hi hp => (EqfT.at hl h hi).1 hp) (fun i hi hp => (EqfT.at hl h hi).2 hp) (fun hall => ?_) (fun hx => no fun e => hx e.2)
    rw [show eqT a b = true from decide_eq_true (⟨hl, hall⟩)]
    refine Goes.ends (k' := k90_j0) (s' := s90_j0 a b) (.step fun J => ?_) (.step fun J => e90_j0 ..)
    rw [e90_l0]
    simp (disch := first | omega | assumption | (rw [decide_eq_true_eq]; omega) | (rw [decide_eq_false_iff_not]; omega)) only [↓if_pos, ↓if_neg, if_true, if_false, wrap_up, Int.toNat_natCast, Nat.zero_add]
  · rw [no fun e => hl e.1]
    refine .step fun J => ?_
    rw [e90]
    rw [if_pos (by simp; omega)]
def S90 : List (AV Ty) → T (AV Ty × List (AV Ty))
  | [.sl false 96 a, .sl false 96 b, .v (.func (.func 91) ⟨[]⟩ ⟨[]⟩)] => .ite (cT a) (cT.dec a) (.ret (.v (.bool (eqT a b)), [.dead, .dead, .dead])) .fail
  | _ => .fail
theorem S90_ok (l : List (AV Ty)) (r : AV Ty) (outs : List (AV Ty)) (h : (S90 l).val = some (r, outs)) : CallOk tb Try.prog 90 l r outs := by
  unfold S90 at h
  split at h
  · rename_i a b
    rcases ite_val h with ⟨e, h⟩ | ⟨_, h⟩
    · cases h; exact eqfT_ok a b e
    · cases h
  · cases h
end Go.Proofs.Ytggibjbcbicpjaa.Ev
