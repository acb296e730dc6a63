/- ir.SameFunc; slices.EqualFunc over functions. -/
import Derived.Test.YtggibjbcbicpjaaIrV
namespace Go.Proofs.Ytggibjbcbicpjaa.Ev
open Go
set_option linter.unusedVariables false
set_option linter.unusedSimpArgs false
theorem blk_ext {a b : List Ev.Block} : a = b ↔ a.length = b.length ∧ ∀ i, i < a.length → eqIns (a.getD i (Block.mk [])).ins (b.getD i (Block.mk [])).ins = true := by
  constructor
  · intro e
    subst e
    exact ⟨rfl, fun i _ => decide_eq_true rfl⟩
  · intro ⟨hl, h⟩
    refine List.ext_getElem hl fun i h1 h2 => ?_
    have := of_decide_eq_true (h i h1)
    rw [List.getD_eq_getElem?_getD, List.getD_eq_getElem?_getD, List.getElem?_eq_getElem h1, List.getElem?_eq_getElem h2] at this
    exact Block.ext this
noncomputable def b55 : Code := bodyOf Try.f55
noncomputable def C55 : Cfg Ty := ⟨fun
  | 94 => some ([], S94)
  | 95 => some ([], S95)
  | _ => none, fun _ => false, 63, 0⟩
def U55 : Cuts := ⟨fun
  | 0 => some []
  | _ => none, fun
  | 0 => some [(2, none), (3, none), (44, none), (45, none)]
  | _ => none, fun _ => none⟩
noncomputable def k55_j0 : List Item := [.code (sndC (sndC (sndC b55)))]
noncomputable def k55_l0 : List Item := [.code (inC (inC (sndC (fstC (sndC (sndC b55)))))), .inLoop (inC (inC (sndC (fstC (sndC (sndC b55)))))), .inBlock 0, .code (sndC (sndC (sndC b55)))]
def a55 (a : Func) (b : Func) : List (AV Ty) := [.agg [.v (.string a.name), .v (.bool a.out), .sl false (3 : Nat) a.params, .v (.int .i64 a.result), .sl false (44 : Nat) a.blocks], .agg [.v (.string b.name), .v (.bool b.out), .sl false (3 : Nat) b.params, .v (.int .i64 b.result), .sl false (44 : Nat) b.blocks]]
noncomputable def R55 (a : Func) (b : Func) : St Ty → EvR := resT tb C55 Try.f55.results.toList .keep (a55 a b)
def s55_l0 (a : Func) (b : Func) (v44 : Int) (v45 : Int) (h0 : List Func) (h1 : List Func) : St Ty := St.mk [(2, .ptr (0) [] (0) (0)), (3, .ptr (1) [] (0) (0)), (44, .v (.int .i64 v44)), (45, .v (.int .i64 v45))] [some (Root.mk (33) false h0), some (Root.mk (33) false h1)]
def s55_j0 (a : Func) (b : Func)  : St Ty := St.mk [] []
theorem e55 (J a b) : run tb C55 U55 J (R55 a b) 4096 [.code b55] ⟨slotsA (a55 a b) 0 0, heapA (a55 a b)⟩ =
 if (!a.name.toList == b.name.toList) = false then
 if (!a.out == b.out) = false then
 if (a.result != b.result) = false then
 if a.params.length ≤ 4611686018427387904 then
 if (!same3 a.params b.params) = false then
 if ((↑a.blocks.length : Int) != (↑b.blocks.length : Int)) = true then
 some (.v (.bool false), [.dead, .dead])
 else
 J k55_l0 (s55_l0 a b ((↑a.blocks.length : Int)) 0 ([Func.mk a.name a.out a.params a.result a.blocks]) ([Func.mk b.name b.out b.params b.result b.blocks]))
 else
 some (.v (.bool false), [.dead, .dead])
 else none
 else
 some (.v (.bool false), [.dead, .dead])
 else
 some (.v (.bool false), [.dead, .dead])
 else
 some (.v (.bool false), [.dead, .dead]) := by kernel_rfl
theorem e55_l0 (J a b v44 v45 h0 h1) : run tb C55 U55 J (R55 a b) 4096 k55_l0 (s55_l0 a b v44 v45 h0 h1) =
 if decide (v45 < v44) = true then
 if 0 ≤ v45 then
 if v45 < (↑(h0.getD (0) (Func.mk ByteArray.empty false [] 0 [])).blocks.length : Int) then
 if 0 ≤ v45 then
 if v45 < (↑(h1.getD (0) (Func.mk ByteArray.empty false [] 0 [])).blocks.length : Int) then
 if cI ((h0.getD (0) (Func.mk ByteArray.empty false [] 0 [])).blocks.getD v45.toNat (Block.mk [])).ins then
 if (!eqIns ((h0.getD (0) (Func.mk ByteArray.empty false [] 0 [])).blocks.getD v45.toNat (Block.mk [])).ins ((h1.getD (0) (Func.mk ByteArray.empty false [] 0 [])).blocks.getD v45.toNat (Block.mk [])).ins) = true then
 some (.v (.bool false), [.dead, .dead])
 else
 J k55_l0 (s55_l0 a b v44 (IntKind.i64.wrap (v45 + 1)) h0 h1)
 else none
 else none
 else none
 else none
 else none
 else
 J k55_j0 (s55_j0 a b) := by kernel_rfl
theorem e55_j0 (J a b) : run tb C55 U55 J (R55 a b) 4096 k55_j0 (s55_j0 a b) =
 some (.v (.bool true), [.dead, .dead]) := by kernel_rfl

theorem in55 : Entered 55 := ⟨Try.f55, b55, by kernel_rfl, by kernel_rfl, by kernel_rfl⟩
theorem fn55 (a b : Ev.Func) {res : AV Ty} {outs : List (AV Ty)} (h : Ends C55 U55 (R55 a b) [.code b55] ⟨slotsA (a55 a b) 0 0, heapA (a55 a b)⟩ (some (res, outs))) : CallOk tb Try.prog 55 (a55 a b) res outs := by
  obtain ⟨n0, hn⟩ := h
  exact fn_ok (C := C55) (U := U55) (n := 0 + n0) (q := .keep) tbOk good (fun f mu S h => by
    unfold C55 at h
    simp only at h
    split at h
    · cases h; exact ⟨in94, S94_ok⟩
    · cases h; exact ⟨in95, S95_ok⟩
    · cases h) mixed (fn := Try.f55) (body := b55) (by kernel_rfl) (by kernel_rfl) rfl rfl (by show 2 ≤ 63; omega) (hn 0)
theorem SameF.at {a b : Ev.Func} (hl : a.blocks.length = b.blocks.length) (h : okF a) {i : Nat} (hi : i < a.blocks.length) : (eqIns (a.blocks.getD i (Block.mk [])).ins (b.blocks.getD i (Block.mk [])).ins = true → Goes C55 U55 (R55 a b) k55_l0 (s55_l0 a b a.blocks.length i [a] [b]) k55_l0 (s55_l0 a b a.blocks.length (i + 1 : Nat) [a] [b])) ∧
    (¬ eqIns (a.blocks.getD i (Block.mk [])).ins (b.blocks.getD i (Block.mk [])).ins = true → Ends C55 U55 (R55 a b) k55_l0 (s55_l0 a b a.blocks.length i [a] [b]) noE) := by
  have h1 := h.2.1
  have h2 : cI (a.blocks.getD i (Block.mk [])).ins := h.blk hi
  have key : ∀ (J : List Item → St Ty → EvR), run tb C55 U55 J (R55 a b) 4096 k55_l0 (s55_l0 a b a.blocks.length i [a] [b]) = if eqIns (a.blocks.getD i (Block.mk [])).ins (b.blocks.getD i (Block.mk [])).ins = true then J k55_l0 (s55_l0 a b a.blocks.length (i + 1 : Nat) [a] [b]) else noE := fun J => by
    rw [e55_l0]
    simp only [Int.toNat_natCast, List.getD_cons_zero]
    simp (disch := first | omega | assumption | (rw [decide_eq_true_eq]; omega) | (rw [decide_eq_false_iff_not]; omega)) only [↓if_pos, ↓if_neg, if_true, if_false, wrap_up, Int.toNat_natCast, Nat.zero_add]
    cases eqIns (a.blocks.getD i (Block.mk [])).ins (b.blocks.getD i (Block.mk [])).ins <;> simp <;> rfl
  exact ⟨fun e => .step fun J => by rw [key, if_pos e], fun e => .step fun J => by rw [key, if_neg e]⟩
theorem irSameFunc_ok (a b : Ev.Func) (h : okF a) : CallOk tb Try.prog 55 (a55 a b) (.v (.bool (sameFun a b))) [.dead, .dead] := by
  refine fn55 a b ?_
  have hp : a.params.length ≤ 4611686018427387904 := by have := h.1; omega
  by_cases h1 : (a.name.toList == b.name.toList) = true
  · by_cases h2 : (a.out == b.out) = true
    · by_cases h3 : (a.result == b.result) = true
      · by_cases h4 : same3 a.params b.params = true
        · have hs : sameFun a b = decide (a.blocks = b.blocks) := by unfold sameFun; simp only [h1, h2, h3, h4, Bool.true_and]
          rw [hs]
          have no : ¬ (a.blocks.length = b.blocks.length ∧ ∀ i, i < a.blocks.length → eqIns (a.blocks.getD i (Block.mk [])).ins (b.blocks.getD i (Block.mk [])).ins = true) → (some (.v (.bool (decide (a.blocks = b.blocks))), [.dead, .dead]) : EvR) = noE := fun h => by
            rw [decide_eq_false fun e => h (blk_ext.1 e)]
          by_cases hl : a.blocks.length = b.blocks.length
          · refine Goes.ends (k' := k55_l0) (s' := s55_l0 a b a.blocks.length (0 : Nat) [a] [b]) (.step fun J => ?_) ?_
            · rw [e55]
              simp only [h1, h2, h3, h4, bne, Bool.not_true, hp, if_true, hl]
              simp
            refine Ends.all (rF := noE) (fun i => s55_l0 a b a.blocks.length i [a] [b]) a.blocks.length _ (fun i hi hp => (SameF.at hl h hi).1 hp) (fun i hi hp => (SameF.at hl h hi).2 hp) (fun hall => ?_) (fun hx => no fun e => hx e.2)
            rw [decide_eq_true (blk_ext.2 ⟨hl, hall⟩)]
            refine Goes.ends (k' := k55_j0) (s' := s55_j0 a b) (.step fun J => ?_) (.step fun J => e55_j0 ..)
            rw [e55_l0]
            simp (disch := first | omega | assumption | (rw [decide_eq_true_eq]; omega) | (rw [decide_eq_false_iff_not]; omega)) only [↓if_pos, ↓if_neg, if_true, if_false, wrap_up, Int.toNat_natCast, Nat.zero_add]
          · rw [no fun e => hl e.1]
            refine .step fun J => ?_
            have : ((a.blocks.length : Int) != b.blocks.length) = true := by simp; omega
            rw [e55]
            simp only [h1, h2, h3, h4, bne, Bool.not_true, hp, if_true] at this ⊢
            simp only [this, if_true]
        · have hs : sameFun a b = false := by unfold sameFun; simp [h4]
          rw [hs]
          refine .step fun J => ?_
          rw [e55]
          simp only [h1, h2, h3, h4, bne, Bool.not_true, hp, if_true]
          simp
      · have hs : sameFun a b = false := by unfold sameFun; simp [h3]
        rw [hs]
        refine .step fun J => ?_
        rw [e55]
        simp only [h1, h2, h3, bne, Bool.not_true, if_true]
        simp
    · have hs : sameFun a b = false := by unfold sameFun; simp [h2]
      rw [hs]
      refine .step fun J => ?_
      rw [e55]
      simp only [h1, h2, Bool.not_true, if_true]
      simp
  · have hs : sameFun a b = false := by unfold sameFun; simp [h1]
    rw [hs]
    refine .step fun J => ?_
    rw [e55]
    simp only [h1]
    simp
def S55 : List (AV Ty) → T (AV Ty × List (AV Ty))
  | [.agg x, .agg y] => match cod33.dec false x, cod33.dec false y with
    | some a, some b => .ite (okF a) (okF.dec a) (.ret (.v (.bool (sameFun a b)), [.dead, .dead])) .fail
    | _, _ => .fail
  | _ => .fail
theorem S55_ok (l : List (AV Ty)) (r : AV Ty) (outs : List (AV Ty)) (h : (S55 l).val = some (r, outs)) : CallOk tb Try.prog 55 l r outs := by
  unfold S55 at h
  split at h
  · rename_i x y
    split at h
    · rename_i a b e1 e2
      rcases ite_val h with ⟨e, h⟩ | ⟨_, h⟩
      · cases h
        have h1 := cod33_ok.dec false x a e1
        have h2 := cod33_ok.dec false y b e2
        subst h1 h2
        exact irSameFunc_ok a b e
      · cases h
    · cases h
  · cases h
end Go.Proofs.Ytggibjbcbicpjaa.Ev
