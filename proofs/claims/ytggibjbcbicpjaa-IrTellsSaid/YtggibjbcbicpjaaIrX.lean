/- slices.EqualFunc over functions; ir.Same. -/
import Derived.Test.YtggibjbcbicpjaaIrW
namespace Go.Proofs.Ytggibjbcbicpjaa.Ev
open Go
set_option linter.unusedVariables false
set_option linter.unusedSimpArgs false
def cF (a : List Ev.Func) : Prop := a.length ≤ 1000 ∧ ∀ x, x ∈ a → okF x
instance cF.dec (a : List Ev.Func) : Decidable (cF a) := by unfold cF; infer_instance
noncomputable def b92 : Code := bodyOf Try.f92
noncomputable def C92 : Cfg Ty := ⟨fun
  | 55 => some ([], S55)
  | _ => none, fun _ => false, 32, 0⟩
def U92 : Cuts := ⟨fun
  | 0 => some []
  | _ => none, fun
  | 0 => some [(1, none), (2, none), (15, none), (16, none), (17, none)]
  | _ => none, fun _ => none⟩
noncomputable def k92_j0 : List Item := [.code (sndC (sndC (sndC b92)))]
noncomputable def k92_l0 : List Item := [.code (inC (inC (sndC (fstC (sndC (sndC b92)))))), .inLoop (inC (inC (sndC (fstC (sndC (sndC b92)))))), .inBlock 0, .code (sndC (sndC (sndC b92)))]
def a92 (a : List Func) (b : List Func) : List (AV Ty) := [.sl false (33 : Nat) a, .sl false (33 : Nat) b, .v (.func (Fn.func (55 : FuncId)) #[] #[])]
noncomputable def R92 (a : List Func) (b : List Func) : St Ty → EvR := resT tb C92 Try.f92.results.toList .keep (a92 a b)
def s92_l0 (a : List Func) (b : List Func) (v15 : List Func) (v16 : Int) (v17 : Int) : St Ty := St.mk [(1, .sl false (33) b), (2, .v (.func (Fn.func (55 : FuncId)) (Array.mk []) (Array.mk []))), (15, .sl false (33) v15), (16, .v (.int .i64 v16)), (17, .v (.int .i64 v17))] []
def s92_j0 (a : List Func) (b : List Func)  : St Ty := St.mk [] []
theorem e92 (J a b) : run tb C92 U92 J (R92 a b) 4096 [.code b92] ⟨slotsA (a92 a b) 0 0, heapA (a92 a b)⟩ =
 if ((↑a.length : Int) != (↑b.length : Int)) = true then
 some (.v (.bool false), [.dead, .dead, .dead])
 else
 J k92_l0 (s92_l0 a b a ((↑a.length : Int)) 0) := by kernel_rfl
theorem e92_l0 (J a b v15 v16 v17) : run tb C92 U92 J (R92 a b) 4096 k92_l0 (s92_l0 a b v15 v16 v17) =
 if decide (v17 < v16) = true then
 if 0 ≤ v17 then
 if v17 < (↑v15.length : Int) then
 if 0 ≤ v17 then
 if v17 < (↑b.length : Int) then
 if okF (Func.mk (v15.getD v17.toNat (Func.mk ByteArray.empty false [] 0 [])).name (v15.getD v17.toNat (Func.mk ByteArray.empty false [] 0 [])).out (v15.getD v17.toNat (Func.mk ByteArray.empty false [] 0 [])).params (v15.getD v17.toNat (Func.mk ByteArray.empty false [] 0 [])).result (v15.getD v17.toNat (Func.mk ByteArray.empty false [] 0 [])).blocks) then
 if (!sameFun (Func.mk (v15.getD v17.toNat (Func.mk ByteArray.empty false [] 0 [])).name (v15.getD v17.toNat (Func.mk ByteArray.empty false [] 0 [])).out (v15.getD v17.toNat (Func.mk ByteArray.empty false [] 0 [])).params (v15.getD v17.toNat (Func.mk ByteArray.empty false [] 0 [])).result (v15.getD v17.toNat (Func.mk ByteArray.empty false [] 0 [])).blocks) (Func.mk (b.getD v17.toNat (Func.mk ByteArray.empty false [] 0 [])).name (b.getD v17.toNat (Func.mk ByteArray.empty false [] 0 [])).out (b.getD v17.toNat (Func.mk ByteArray.empty false [] 0 [])).params (b.getD v17.toNat (Func.mk ByteArray.empty false [] 0 [])).result (b.getD v17.toNat (Func.mk ByteArray.empty false [] 0 [])).blocks)) = true then
 some (.v (.bool false), [.dead, .dead, .dead])
 else
 J k92_l0 (s92_l0 a b v15 v16 (IntKind.i64.wrap (v17 + 1)))
 else none
 else none
 else none
 else none
 else none
 else
 J k92_j0 (s92_j0 a b) := by kernel_rfl
theorem e92_j0 (J a b) : run tb C92 U92 J (R92 a b) 4096 k92_j0 (s92_j0 a b) =
 some (.v (.bool true), [.dead, .dead, .dead]) := by kernel_rfl

theorem in92 : Entered 92 := ⟨Try.f92, b92, by kernel_rfl, by kernel_rfl, by kernel_rfl⟩
theorem fn92 (a b : List Ev.Func) {res : AV Ty} {outs : List (AV Ty)} (h : Ends C92 U92 (R92 a b) [.code b92] ⟨slotsA (a92 a b) 0 0, heapA (a92 a b)⟩ (some (res, outs))) : CallOk tb Try.prog 92 (a92 a b) res outs := by
  obtain ⟨n0, hn⟩ := h
  exact fn_ok (C := C92) (U := U92) (n := 0 + n0) (q := .keep) tbOk good (fun f mu S h => by
    unfold C92 at h
    simp only at h
    split at h
    · cases h; exact ⟨in55, S55_ok⟩
    · cases h) mixed (fn := Try.f92) (body := b92) (by kernel_rfl) (by kernel_rfl) rfl rfl (by show 3 ≤ 32; omega) (hn 0)
theorem EqfF.at {a b : List Ev.Func} (hl : a.length = b.length) (h : cF a) {i : Nat} (hi : i < a.length) : (sameFun (a.getD i (Func.mk ByteArray.empty false [] 0 [])) (b.getD i (Func.mk ByteArray.empty false [] 0 [])) = true → Goes C92 U92 (R92 a b) k92_l0 (s92_l0 a b a a.length i) k92_l0 (s92_l0 a b a a.length (i + 1 : Nat))) ∧ (¬ sameFun (a.getD i (Func.mk ByteArray.empty false [] 0 [])) (b.getD i (Func.mk ByteArray.empty false [] 0 [])) = true → Ends C92 U92 (R92 a b) k92_l0 (s92_l0 a b a a.length i) no3) := by
  have h1 := h.1
  have h2 := h.2 _ (getD_mem (d := (Func.mk ByteArray.empty false [] 0 [])) hi)
  have e1 : (Func.mk (a.getD i (Func.mk ByteArray.empty false [] 0 [])).name (a.getD i (Func.mk ByteArray.empty false [] 0 [])).out (a.getD i (Func.mk ByteArray.empty false [] 0 [])).params (a.getD i (Func.mk ByteArray.empty false [] 0 [])).result (a.getD i (Func.mk ByteArray.empty false [] 0 [])).blocks) = a.getD i (Func.mk ByteArray.empty false [] 0 []) := rfl
  have e2 : (Func.mk (b.getD i (Func.mk ByteArray.empty false [] 0 [])).name (b.getD i (Func.mk ByteArray.empty false [] 0 [])).out (b.getD i (Func.mk ByteArray.empty false [] 0 [])).params (b.getD i (Func.mk ByteArray.empty false [] 0 [])).result (b.getD i (Func.mk ByteArray.empty false [] 0 [])).blocks) = b.getD i (Func.mk ByteArray.empty false [] 0 []) := rfl
  have key : ∀ (J : List Item → St Ty → EvR), run tb C92 U92 J (R92 a b) 4096 k92_l0 (s92_l0 a b a a.length i) = if sameFun (a.getD i (Func.mk ByteArray.empty false [] 0 [])) (b.getD i (Func.mk ByteArray.empty false [] 0 [])) = true then J k92_l0 (s92_l0 a b a a.length (i + 1 : Nat)) else no3 := fun J => by
    rw [e92_l0]
    simp only [Int.toNat_natCast]
    simp only [e1, e2]
    simp (disch := first | omega | assumption | (rw [decide_eq_true_eq]; omega) | (rw [decide_eq_false_iff_not]; omega)) only [↓if_pos, ↓if_neg, if_true, if_false, wrap_up, Int.toNat_natCast, Nat.zero_add]
    cases sameFun (a.getD i (Func.mk ByteArray.empty false [] 0 [])) (b.getD i (Func.mk ByteArray.empty false [] 0 [])) <;> simp <;> rfl
  exact ⟨fun e => .step fun J => by rw [key, if_pos e], fun e => .step fun J => by rw [key, if_neg e]⟩
theorem eqfF_ok (a b : List Ev.Func) (h : cF a) : CallOk tb Try.prog 92 (a92 a b) (.v (.bool (eqF a b))) [.dead, .dead, .dead] := by
  refine fn92 a b ?_
  have no : ¬ (a.length = b.length ∧ ∀ i, i < a.length → sameFun (a.getD i (Func.mk ByteArray.empty false [] 0 [])) (b.getD i (Func.mk ByteArray.empty false [] 0 [])) = true) → (some (.v (.bool (eqF a b)), [.dead, .dead, .dead]) : EvR) = no3 := fun h => by
    rw [show eqF a b = false from decide_eq_false fun e => h (e)]
  by_cases hl : a.length = b.length
  · refine Goes.ends (k' := k92_l0) (s' := s92_l0 a b a a.length (0 : Nat)) (.step fun J => ?_) ?_
    · rw [e92, if_neg (by simp [hl])]
      rfl
    refine Ends.all (rF := no3) (fun i => s92_l0 a b a a.length i) a.length (fun i => sameFun (a.getD i (Func.mk ByteArray.empty false [] 0 [])) (b.getD i (Func.mk ByteArray.empty false [] 0 [])) = true) (fun i hi hp => (EqfF.at hl h hi).1 hp) (fun i hi hp => (EqfF.at hl h hi).2 hp) (fun hall => ?_) (fun hx => no fun e => hx e.2)
    rw [show eqF a b = true from decide_eq_true (⟨hl, hall⟩)]
    refine Goes.ends (k' := k92_j0) (s' := s92_j0 a b) (.step fun J => ?_) (.step fun J => e92_j0 ..)
    rw [e92_l0]
    simp (disch := first | omega | assumption | (rw [decide_eq_true_eq]; omega) | (rw [decide_eq_false_iff_not]; omega)) only [↓if_pos, ↓if_neg, if_true, if_false, wrap_up, Int.toNat_natCast, Nat.zero_add]
  · rw [no fun e => hl e.1]
    refine .step fun J => ?_
    rw [e92]
    rw [if_pos (by simp; omega)]
def S92 : List (AV Ty) → T (AV Ty × List (AV Ty))
  | [.sl false 33 a, .sl false 33 b, .v (.func (.func 55) ⟨[]⟩ ⟨[]⟩)] => .ite (cF a) (cF.dec a) (.ret (.v (.bool (eqF a b)), [.dead, .dead, .dead])) .fail
  | _ => .fail
theorem S92_ok (l : List (AV Ty)) (r : AV Ty) (outs : List (AV Ty)) (h : (S92 l).val = some (r, outs)) : CallOk tb Try.prog 92 l r outs := by
  unfold S92 at h
  split at h
  · rename_i a b
    rcases ite_val h with ⟨e, h⟩ | ⟨_, h⟩
    · cases h; exact eqfF_ok a b e
    · cases h
  · cases h
end Go.Proofs.Ytggibjbcbicpjaa.Ev
