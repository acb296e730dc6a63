/- plnkeep.Light, ir.copyFunc, ir.rise: what they come to. -/
import Derived.Test.YtggibjbcbicpjaaIrC
namespace Go.Proofs.Ytggibjbcbicpjaa.Ev
open Go
set_option linter.unusedVariables false
set_option linter.unusedSimpArgs false
def S51 : List (AV Ty) → T (AV Ty × List (AV Ty))
  | [.agg x] => match cod33.dec false x with
    | some f => .ite (okF f) (okF.dec f) (.ret (.v (.int .i64 (szT f.blocks)), [.dead])) .fail
    | none => .fail
  | _ => .fail
theorem S51_ok (l : List (AV Ty)) (r : AV Ty) (outs : List (AV Ty)) (h : (S51 l).val = some (r, outs)) : CallOk tb Try.prog 51 l r outs := by
  unfold S51 at h
  split at h
  · rename_i x
    split at h
    · rename_i f e1
      rcases ite_val h with ⟨e, h⟩ | ⟨_, h⟩
      · cases h
        have h1 := cod33_ok.dec false x f e1
        subst h1
        exact size_ok f e
      · cases h
    · cases h
  · cases h
def S28 : List (AV Ty) → T (AV Ty × List (AV Ty))
  | [.agg x] => match cod33.dec false x with
    | some f => .ite (okF f) (okF.dec f) (.ret (.v (.int .i64 (szT f.blocks)), [.dead])) .fail
    | none => .fail
  | _ => .fail
theorem S28_ok (l : List (AV Ty)) (r : AV Ty) (outs : List (AV Ty)) (h : (S28 l).val = some (r, outs)) : CallOk tb Try.prog 28 l r outs := by
  unfold S28 at h
  split at h
  · rename_i x
    split at h
    · rename_i f e1
      rcases ite_val h with ⟨e, h⟩ | ⟨_, h⟩
      · cases h
        have h1 := cod33_ok.dec false x f e1
        subst h1
        exact rsize_ok f e
      · cases h
    · cases h
  · cases h
def S52 : List (AV Ty) → T (AV Ty × List (AV Ty))
  | [.agg x] => match cod33.dec false x with
    | some f => .ite (okF f) (okF.dec f) (.ret (.sl true 3 (typesOf f), [.dead])) .fail
    | none => .fail
  | _ => .fail
theorem S52_ok (l : List (AV Ty)) (r : AV Ty) (outs : List (AV Ty)) (h : (S52 l).val = some (r, outs)) : CallOk tb Try.prog 52 l r outs := by
  unfold S52 at h
  split at h
  · rename_i x
    split at h
    · rename_i f e1
      rcases ite_val h with ⟨e, h⟩ | ⟨_, h⟩
      · cases h
        have h1 := cod33_ok.dec false x f e1
        subst h1
        exact types_ok f e
      · cases h
    · cases h
  · cases h
def S30 : List (AV Ty) → T (AV Ty × List (AV Ty))
  | [.agg x] => match cod33.dec false x with
    | some f => .ite (okF f) (okF.dec f) (.ret (.sl true 3 (typesOf f), [.dead])) .fail
    | none => .fail
  | _ => .fail
theorem S30_ok (l : List (AV Ty)) (r : AV Ty) (outs : List (AV Ty)) (h : (S30 l).val = some (r, outs)) : CallOk tb Try.prog 30 l r outs := by
  unfold S30 at h
  split at h
  · rename_i x
    split at h
    · rename_i f e1
      rcases ite_val h with ⟨e, h⟩ | ⟨_, h⟩
      · cases h
        have h1 := cod33_ok.dec false x f e1
        subst h1
        exact rtypes_ok f e
      · cases h
    · cases h
  · cases h
def fineI (i : Ev.Ins) : Prop := i.args.length ≤ 20 ∧ i.into.length ≤ 20
def wideF (f : Ev.Func) : Prop := ∀ b, b ∈ f.blocks → b.ins.length ≤ 140737488351232
def lightF (f : Ev.Func) : Prop := f.name.size ≤ 40 ∧ f.params.length ≤ 8 ∧ f.blocks.length ≤ 16 ∧ szT f.blocks ≤ 90 ∧ ∀ b, b ∈ f.blocks → ∀ i, i ∈ b.ins → fineI i
instance fineI.dec (i : Ev.Ins) : Decidable (fineI i) := by unfold fineI; infer_instance
instance wideF.dec (f : Ev.Func) : Decidable (wideF f) := by unfold wideF; infer_instance
instance lightF.dec (f : Ev.Func) : Decidable (lightF f) := by unfold lightF; infer_instance
theorem szT_mem {l : List Ev.Block} {b : Ev.Block} (h : b ∈ l) : b.ins.length ≤ szT l := by
  induction l with
  | nil => cases h
  | cons x l ih =>
    simp only [szT, List.map_cons, List.sum_cons] at ih ⊢
    rcases List.mem_cons.1 h with rfl | h
    · omega
    · have := ih h; omega
theorem lightF.ok {f : Ev.Func} (h : lightF f) : okF f := by
  obtain ⟨h1, h2, h3, h4, h5⟩ := h
  refine ⟨by omega, by omega, fun b hb => ⟨?_, fun i hi => ?_⟩⟩
  · have := szT_mem hb; omega
  · have := h5 b hb i hi
    unfold fineI at this
    exact ⟨by omega, by omega⟩
def yesB (q : Bool) : AV Ty := .v (.bool q)
noncomputable def b25 : Code := bodyOf Try.f25
def C25 : Cfg Ty := ⟨fun _ => none, fun _ => false, 77, 0⟩
def U25 : Cuts := ⟨fun
  | 0 => some []
  | 1 => some [(1, none), (3, none), (4, none)]
  | 2 => some [(1, none), (3, none), (4, none)]
  | _ => none, fun
  | 0 => some [(1, none), (3, none), (4, none)]
  | 2 => some [(1, none), (3, none), (4, none), (5, none)]
  | _ => none, fun _ => none⟩
noncomputable def k25_j0 : List Item := [.code (sndC (sndC (sndC (sndC b25))))]
noncomputable def k25_l0 : List Item := [.code (inC (inC (sndC (fstC (sndC (sndC (sndC b25))))))), .inLoop (inC (inC (sndC (fstC (sndC (sndC (sndC b25))))))), .inBlock 0, .code (sndC (sndC (sndC (sndC b25))))]
noncomputable def k25_j1 : List Item := [.code (sndC (sndC (inC (inC (sndC (fstC (sndC (sndC (sndC b25))))))))), .inLoop (inC (inC (sndC (fstC (sndC (sndC (sndC b25))))))), .inBlock 0, .code (sndC (sndC (sndC (sndC b25))))]
noncomputable def k25_j2 : List Item := [.inBlock 1, .code (sndC (sndC (inC (inC (sndC (fstC (sndC (sndC (sndC b25))))))))), .inLoop (inC (inC (sndC (fstC (sndC (sndC (sndC b25))))))), .inBlock 0, .code (sndC (sndC (sndC (sndC b25))))]
noncomputable def k25_l2 : List Item := [.code (inC (inC (sndC (sndC (sndC (inC (fstC (sndC (inC (inC (sndC (fstC (sndC (sndC (sndC b25))))))))))))))), .inLoop (inC (inC (sndC (sndC (sndC (inC (fstC (sndC (inC (inC (sndC (fstC (sndC (sndC (sndC b25))))))))))))))), .inBlock 2, .inBlock 1, .code (sndC (sndC (inC (inC (sndC (fstC (sndC (sndC (sndC b25))))))))), .inLoop (inC (inC (sndC (fstC (sndC (sndC (sndC b25))))))), .inBlock 0, .code (sndC (sndC (sndC (sndC b25))))]
def a25 (f : Func) : List (AV Ty) := [.agg [.v (.string f.name), .v (.bool f.out), .sl false (3 : Nat) f.params, .v (.int .i64 f.result), .sl false (44 : Nat) f.blocks]]
noncomputable def R25 (f : Func) : St Ty → EvR := resT tb C25 Try.f25.results.toList .keep (a25 f)
def s25_l0 (f : Func) (v3 : Int) (v4 : Int) (h0 : List Func) : St Ty := St.mk [(1, .ptr (0) [] (0) (0)), (3, .v (.int .i64 v3)), (4, .v (.int .i64 v4))] [some (Root.mk (33) false h0)]
def s25_l2 (f : Func) (v3 : Int) (v4 : Int) (v5 : Int) (h0 : List Func) : St Ty := St.mk [(1, .ptr (0) [] (0) (0)), (3, .v (.int .i64 v3)), (4, .v (.int .i64 v4)), (5, .v (.int .i64 v5))] [some (Root.mk (33) false h0)]
def s25_j0 (f : Func)  : St Ty := St.mk [] []
def s25_j2 (f : Func) (v3 : Int) (v4 : Int) (h0 : List Func) : St Ty := St.mk [(1, .ptr (0) [] (0) (0)), (3, .v (.int .i64 v3)), (4, .v (.int .i64 v4))] [some (Root.mk (33) false h0)]
def s25_j1 (f : Func) (v3 : Int) (v4 : Int) (h0 : List Func) : St Ty := St.mk [(1, .ptr (0) [] (0) (0)), (3, .v (.int .i64 v3)), (4, .v (.int .i64 v4))] [some (Root.mk (33) false h0)]
theorem e25 (J f) : run tb C25 U25 J (R25 f) 4096 [.code b25] ⟨slotsA (a25 f) 0 0, heapA (a25 f)⟩ =
 if decide ((↑f.name.size : Int) > 40) = false then
 if decide ((↑f.params.length : Int) > 8) = false then
 if decide ((↑f.blocks.length : Int) > 16) = true then
 some (.v (.bool false), [.dead])
 else
 J k25_l0 (s25_l0 f 0 0 ([Func.mk f.name f.out f.params f.result f.blocks]))
 else
 some (.v (.bool false), [.dead])
 else
 some (.v (.bool false), [.dead]) := by kernel_rfl
theorem e25_l0 (J f v3 v4 h0) : run tb C25 U25 J (R25 f) 4096 k25_l0 (s25_l0 f v3 v4 h0) =
 if decide (v4 < (↑(h0.getD (0) (Func.mk ByteArray.empty false [] 0 [])).blocks.length : Int)) = true then
 if 0 ≤ v4 then
 if v4 < (↑(h0.getD (0) (Func.mk ByteArray.empty false [] 0 [])).blocks.length : Int) then
 if decide (IntKind.i64.wrap (v3 + (↑((h0.getD (0) (Func.mk ByteArray.empty false [] 0 [])).blocks.getD v4.toNat (Block.mk [])).ins.length : Int)) > 90) = true then
 some (.v (.bool false), [.dead])
 else
 J k25_l2 (s25_l2 f (IntKind.i64.wrap (v3 + (↑((h0.getD (0) (Func.mk ByteArray.empty false [] 0 [])).blocks.getD v4.toNat (Block.mk [])).ins.length : Int))) v4 0 h0)
 else none
 else none
 else
 J k25_j0 (s25_j0 f) := by kernel_rfl
theorem e25_l2 (J f v3 v4 v5 h0) : run tb C25 U25 J (R25 f) 4096 k25_l2 (s25_l2 f v3 v4 v5 h0) =
 if 0 ≤ v4 then
 if v4 < (↑(h0.getD (0) (Func.mk ByteArray.empty false [] 0 [])).blocks.length : Int) then
 if decide (v5 < (↑((h0.getD (0) (Func.mk ByteArray.empty false [] 0 [])).blocks.getD v4.toNat (Block.mk [])).ins.length : Int)) = true then
 if 0 ≤ v4 then
 if v4 < (↑(h0.getD (0) (Func.mk ByteArray.empty false [] 0 [])).blocks.length : Int) then
 if 0 ≤ v5 then
 if v5 < (↑((h0.getD (0) (Func.mk ByteArray.empty false [] 0 [])).blocks.getD v4.toNat (Block.mk [])).ins.length : Int) then
 if decide ((↑(((h0.getD (0) (Func.mk ByteArray.empty false [] 0 [])).blocks.getD v4.toNat (Block.mk [])).ins.getD v5.toNat (Ins.mk 0 0 0 0 0 [] [])).args.length : Int) > 20) = false then
 if 0 ≤ v4 then
 if v4 < (↑(h0.getD (0) (Func.mk ByteArray.empty false [] 0 [])).blocks.length : Int) then
 if 0 ≤ v5 then
 if v5 < (↑((h0.getD (0) (Func.mk ByteArray.empty false [] 0 [])).blocks.getD v4.toNat (Block.mk [])).ins.length : Int) then
 if decide ((↑(((h0.getD (0) (Func.mk ByteArray.empty false [] 0 [])).blocks.getD v4.toNat (Block.mk [])).ins.getD v5.toNat (Ins.mk 0 0 0 0 0 [] [])).into.length : Int) > 20) = true then
 some (.v (.bool false), [.dead])
 else
 J k25_l2 (s25_l2 f v3 v4 (IntKind.i64.wrap (v5 + 1)) h0)
 else none
 else none
 else none
 else none
 else
 some (.v (.bool false), [.dead])
 else none
 else none
 else none
 else none
 else
 J k25_j2 (s25_j2 f v3 v4 h0)
 else none
 else none := by kernel_rfl
theorem e25_j0 (J f) : run tb C25 U25 J (R25 f) 4096 k25_j0 (s25_j0 f) =
 some (.v (.bool true), [.dead]) := by kernel_rfl
theorem e25_j2 (J f v3 v4 h0) : run tb C25 U25 J (R25 f) 4096 k25_j2 (s25_j2 f v3 v4 h0) =
 J k25_j1 (s25_j1 f v3 v4 h0) := by kernel_rfl
theorem e25_j1 (J f v3 v4 h0) : run tb C25 U25 J (R25 f) 4096 k25_j1 (s25_j1 f v3 v4 h0) =
 J k25_l0 (s25_l0 f v3 (IntKind.i64.wrap (v4 + 1)) h0) := by kernel_rfl

theorem in25 : Entered 25 := ⟨Try.f25, b25, by kernel_rfl, by kernel_rfl, by kernel_rfl⟩
theorem fn25 (f : Ev.Func) {res : AV Ty} {outs : List (AV Ty)} (h : Ends C25 U25 (R25 f) [.code b25] ⟨slotsA (a25 f) 0 0, heapA (a25 f)⟩ (some (res, outs))) : CallOk tb Try.prog 25 (a25 f) res outs := by
  obtain ⟨n0, hn⟩ := h
  exact fn_ok (C := C25) (U := U25) (n := 0 + n0) (q := .keep) tbOk good (fun f mu S h => by cases h) mixed (fn := Try.f25) (body := b25) (by kernel_rfl) (by kernel_rfl) rfl rfl (by show 1 ≤ 77; omega) (hn 0)
section
variable {f : Ev.Func}
theorem Light.in1 {i : Nat} {n : Int} (hi : i < f.blocks.length) (hw : wideF f) {k : Nat} (hk : k < (f.blocks.getD i (Block.mk [])).ins.length) (h : fineI ((f.blocks.getD i (Block.mk [])).ins.getD k (Ins.mk 0 0 0 0 0 [] []))) :
    Goes C25 U25 (R25 f) k25_l2 (s25_l2 f n i k [f]) k25_l2 (s25_l2 f n i (k + 1 : Nat) [f]) := .step fun J => by
  have hl := hw _ (getD_mem (d := (Block.mk [])) hi)
  obtain ⟨h1, h2⟩ := h
  rw [e25_l2]
  simp only [List.getD_cons_zero, Int.toNat_natCast]
  simp (disch := first | omega | assumption | (rw [decide_eq_true_eq]; omega) | (rw [decide_eq_false_iff_not]; omega)) only [↓if_pos, ↓if_neg, if_true, if_false, wrap_up, Int.toNat_natCast, Nat.zero_add]
  rfl
theorem Light.in0 {i : Nat} {n : Int} (hi : i < f.blocks.length) (hw : wideF f) {k : Nat} (hk : k < (f.blocks.getD i (Block.mk [])).ins.length) (h : ¬ fineI ((f.blocks.getD i (Block.mk [])).ins.getD k (Ins.mk 0 0 0 0 0 [] []))) :
    Ends C25 U25 (R25 f) k25_l2 (s25_l2 f n i k [f]) (some (yesB false, [.dead])) := .step fun J => by
  have hl := hw _ (getD_mem (d := (Block.mk [])) hi)
  rw [e25_l2]
  simp only [List.getD_cons_zero, Int.toNat_natCast]
  by_cases h1 : ((f.blocks.getD i (Block.mk [])).ins.getD k (Ins.mk 0 0 0 0 0 [] [])).args.length ≤ 20
  · have h2 : ¬ ((f.blocks.getD i (Block.mk [])).ins.getD k (Ins.mk 0 0 0 0 0 [] [])).into.length ≤ 20 := fun e => h ⟨h1, e⟩
    simp (disch := first | omega | assumption | (rw [decide_eq_true_eq]; omega) | (rw [decide_eq_false_iff_not]; omega)) only [↓if_pos, ↓if_neg, if_true, if_false, wrap_up, Int.toNat_natCast, Nat.zero_add]
    rfl
  · simp (disch := first | omega | assumption | (rw [decide_eq_true_eq]; omega) | (rw [decide_eq_false_iff_not]; omega)) only [↓if_pos, ↓if_neg, if_true, if_false, wrap_up, Int.toNat_natCast, Nat.zero_add]
    rfl
theorem szT_mono {l : List Ev.Block} (i : Nat) : szT (l.take i) ≤ szT l := by
  have : szT l = szT (l.take i) + szT (l.drop i) := by
    rw [szT, szT, szT, ← List.sum_append, ← List.map_append, List.take_append_drop]
  omega
theorem Light.go (hw : wideF f) (hl : f.blocks.length ≤ 16) : ∀ (m i : Nat), i + m = f.blocks.length → szT (f.blocks.take i) ≤ 90 →
    Ends C25 U25 (R25 f) k25_l0 (s25_l0 f (szT (f.blocks.take i)) i [f]) (some (yesB (decide (szT f.blocks ≤ 90 ∧ ∀ b, b ∈ f.blocks.drop i → ∀ i, i ∈ b.ins → fineI i)), [.dead]))
  | 0, i, hi, hs => by
    have e : i = f.blocks.length := by omega
    refine Goes.ends (k' := k25_j0) (s' := s25_j0 f) (.step fun J => ?_) (.step fun J => ?_)
    · rw [e25_l0]
      simp only [List.getD_cons_zero, Int.toNat_natCast]
      simp (disch := first | omega | assumption | (rw [decide_eq_true_eq]; omega) | (rw [decide_eq_false_iff_not]; omega)) only [↓if_pos, ↓if_neg, if_true, if_false, wrap_up, Int.toNat_natCast, Nat.zero_add]
    · rw [e25_j0, decide_eq_true]
      · rfl
      · subst e
        rw [List.take_length] at hs
        rw [List.drop_length]
        exact ⟨hs, fun b hb => by cases hb⟩
  | m + 1, i, hi, hs => by
    have hi' : i < f.blocks.length := by omega
    have h1 := szT_step hi'
    have h2 := hw _ (getD_mem (d := (Block.mk [])) hi')
    by_cases h3 : szT (f.blocks.take (i + 1)) ≤ 90
    · have start : Goes C25 U25 (R25 f) k25_l0 (s25_l0 f (szT (f.blocks.take i)) i [f]) k25_l2 (s25_l2 f (szT (f.blocks.take (i + 1))) i (0 : Nat) [f]) := .step fun J => by
        rw [e25_l0, h1]
        simp only [List.getD_cons_zero, Int.toNat_natCast]
        simp (disch := first | omega | assumption | (rw [decide_eq_true_eq]; omega) | (rw [decide_eq_false_iff_not]; omega)) only [↓if_pos, ↓if_neg, if_true, if_false, wrap_up, Int.toNat_natCast, Nat.zero_add]
        rfl
      refine start.ends ?_
      have hd : f.blocks.drop i = f.blocks.getD i (Block.mk []) :: f.blocks.drop (i + 1) := by
        rw [List.drop_eq_getElem_cons hi', List.getD_eq_getElem?_getD, List.getElem?_eq_getElem hi']
        rfl
      by_cases h4 : ∀ x, x ∈ (f.blocks.getD i (Block.mk [])).ins → fineI x
      · refine Goes.ends (Goes.upto (fun k => s25_l2 f (szT (f.blocks.take (i + 1))) i k [f]) _ (fun k hk => Light.in1 hi' hw hk (h4 _ (getD_mem hk))) _ (Nat.le_refl _)) ?_
        refine Goes.ends (k' := k25_j2) (s' := s25_j2 f (szT (f.blocks.take (i + 1))) i [f]) (.step fun J => ?_) (Goes.ends (.step fun J => e25_j2 ..) (Goes.ends (k' := k25_l0) (s' := s25_l0 f (szT (f.blocks.take (i + 1))) (i + 1 : Nat) [f]) (.step fun J => ?_) ?_))
        · rw [e25_l2]
          simp only [List.getD_cons_zero, Int.toNat_natCast]
          simp (disch := first | omega | assumption | (rw [decide_eq_true_eq]; omega) | (rw [decide_eq_false_iff_not]; omega)) only [↓if_pos, ↓if_neg, if_true, if_false, wrap_up, Int.toNat_natCast, Nat.zero_add]
        · rw [e25_j1]
          simp (disch := first | omega | assumption | (rw [decide_eq_true_eq]; omega) | (rw [decide_eq_false_iff_not]; omega)) only [↓if_pos, ↓if_neg, if_true, if_false, wrap_up, Int.toNat_natCast, Nat.zero_add]
          rfl
        · have := Light.go hw hl m (i + 1) (by omega) h3
          rw [decide_eq_decide.2 (show _ ↔ _ from ?_)]
          · exact this
          · rw [hd]
            simp only [List.mem_cons, forall_eq_or_imp]
            exact ⟨fun ⟨a, _, b⟩ => ⟨a, b⟩, fun ⟨a, b⟩ => ⟨a, h4, b⟩⟩
      · rw [decide_eq_false (by
          rw [hd]
          simp only [List.mem_cons, forall_eq_or_imp]
          exact fun e => h4 e.2.1)]
        have : ∃ j, j < (f.blocks.getD i (Block.mk [])).ins.length ∧ ¬ fineI ((f.blocks.getD i (Block.mk [])).ins.getD j (Ins.mk 0 0 0 0 0 [] [])) := by
          refine Classical.byContradiction fun hn => h4 fun x hx => ?_
          obtain ⟨j, hj, e⟩ := List.getElem_of_mem hx
          refine Classical.byContradiction fun hc => hn ⟨j, hj, ?_⟩
          rw [List.getD_eq_getElem?_getD, List.getElem?_eq_getElem hj]
          rw [← e] at hc
          exact hc
        obtain ⟨j, j1, j2⟩ := this
        exact Ends.at (fun k => s25_l2 f (szT (f.blocks.take (i + 1))) i k [f]) _ (fun k => fineI ((f.blocks.getD i (Block.mk [])).ins.getD k (Ins.mk 0 0 0 0 0 [] []))) (fun k hk hp => Light.in1 hi' hw hk hp) (fun k hk hp => Light.in0 hi' hw hk hp) _ 0 (Nat.zero_add _) ⟨j, Nat.zero_le _, j1, j2⟩
    · rw [decide_eq_false fun e => h3 (Nat.le_trans (szT_mono _) e.1)]
      exact .step fun J => by
        rw [e25_l0]
        simp only [List.getD_cons_zero, Int.toNat_natCast]
        simp (disch := first | omega | assumption | (rw [decide_eq_true_eq]; omega) | (rw [decide_eq_false_iff_not]; omega)) only [↓if_pos, ↓if_neg, if_true, if_false, wrap_up, Int.toNat_natCast, Nat.zero_add]
        rfl
end
theorem light_ok (f : Ev.Func) (hw : wideF f) : CallOk tb Try.prog 25 (a25 f) (yesB (decide (lightF f))) [.dead] := by
  refine fn25 f ?_
  by_cases h1 : f.name.size ≤ 40
  · by_cases h2 : f.params.length ≤ 8
    · by_cases h3 : f.blocks.length ≤ 16
      · refine Goes.ends (k' := k25_l0) (s' := s25_l0 f (szT (f.blocks.take 0)) (0 : Nat) [f]) (.step fun J => ?_) ?_
        · rw [e25]
          simp (disch := first | omega | assumption | (rw [decide_eq_true_eq]; omega) | (rw [decide_eq_false_iff_not]; omega)) only [↓if_pos, ↓if_neg, if_true, if_false, wrap_up, Int.toNat_natCast, Nat.zero_add]
          rfl
        · have := Light.go hw h3 f.blocks.length 0 (by omega) (by simp [szT])
          rw [decide_eq_decide.2 (show lightF f ↔ _ from ⟨fun h => h.2.2.2, fun h => ⟨h1, h2, h3, h⟩⟩)]
          exact this
      · rw [decide_eq_false fun e => h3 e.2.2.1]
        exact .step fun J => by
          rw [e25]
          simp (disch := first | omega | assumption | (rw [decide_eq_true_eq]; omega) | (rw [decide_eq_false_iff_not]; omega)) only [↓if_pos, ↓if_neg, if_true, if_false, wrap_up, Int.toNat_natCast, Nat.zero_add]
          rfl
    · rw [decide_eq_false fun e => h2 e.2.1]
      exact .step fun J => by
        rw [e25]
        simp (disch := first | omega | assumption | (rw [decide_eq_true_eq]; omega) | (rw [decide_eq_false_iff_not]; omega)) only [↓if_pos, ↓if_neg, if_true, if_false, wrap_up, Int.toNat_natCast, Nat.zero_add]
        rfl
  · rw [decide_eq_false fun e => h1 e.1]
    exact .step fun J => by
      rw [e25]
      simp (disch := first | omega | assumption | (rw [decide_eq_true_eq]; omega) | (rw [decide_eq_false_iff_not]; omega)) only [↓if_pos, ↓if_neg, if_true, if_false, wrap_up, Int.toNat_natCast, Nat.zero_add]
      rfl
def lightB (f : Ev.Func) : Bool := decide (lightF f)
def S25 : List (AV Ty) → T (AV Ty × List (AV Ty))
  | [.agg x] => match cod33.dec false x with
    | some f => .ite (wideF f) (wideF.dec f) (.ret (.v (.bool (lightB f)), [.dead])) .fail
    | none => .fail
  | _ => .fail
theorem S25_ok (l : List (AV Ty)) (r : AV Ty) (outs : List (AV Ty)) (h : (S25 l).val = some (r, outs)) : CallOk tb Try.prog 25 l r outs := by
  unfold S25 at h
  split at h
  · rename_i x
    split at h
    · rename_i f e1
      rcases ite_val h with ⟨e, h⟩ | ⟨_, h⟩
      · cases h
        have h1 := cod33_ok.dec false x f e1
        subst h1
        exact light_ok f e
      · cases h
    · cases h
  · cases h
noncomputable def b76 : Code := bodyOf Try.f76
noncomputable def C76 : Cfg Ty := ⟨fun
  | 80 => some ([], S80)
  | 131 => some ([], S131)
  | _ => none, fun
  | 1 => true
  | 2 => true
  | 6 => true
  | 32 => true
  | 33 => true
  | 39 => true
  | 40 => true
  | 300001 => true
  | 400043 => true
  | _ => false, 44, 0⟩
def U76 : Cuts := ⟨fun
  | 0 => some [(1, none), (2, none)]
  | 1 => some [(1, none), (2, none), (16, none), (17, none), (18, none)]
  | 2 => some [(1, none), (2, none), (6, some 46), (16, none), (17, none), (18, none)]
  | _ => none, fun
  | 0 => some [(1, none), (2, none), (16, none), (17, none), (18, none)]
  | 2 => some [(1, none), (2, none), (6, some 46), (16, none), (17, none), (18, none), (23, none), (24, none), (25, none)]
  | _ => none, fun _ => none⟩
noncomputable def k76_j0 : List Item := [.code (sndC (sndC (sndC (sndC (sndC b76)))))]
noncomputable def k76_l0 : List Item := [.code (inC (inC (sndC (fstC (sndC (sndC (sndC (sndC b76)))))))), .inLoop (inC (inC (sndC (fstC (sndC (sndC (sndC (sndC b76)))))))), .inBlock 0, .code (sndC (sndC (sndC (sndC (sndC b76)))))]
noncomputable def k76_j1 : List Item := [.code (sndC (sndC (sndC (inC (inC (sndC (fstC (sndC (sndC (sndC (sndC b76))))))))))), .inLoop (inC (inC (sndC (fstC (sndC (sndC (sndC (sndC b76)))))))), .inBlock 0, .code (sndC (sndC (sndC (sndC (sndC b76)))))]
noncomputable def k76_j2 : List Item := [.code (sndC (sndC (sndC (inC (fstC (sndC (sndC (inC (inC (sndC (fstC (sndC (sndC (sndC (sndC b76))))))))))))))), .inBlock 1, .code (sndC (sndC (sndC (inC (inC (sndC (fstC (sndC (sndC (sndC (sndC b76))))))))))), .inLoop (inC (inC (sndC (fstC (sndC (sndC (sndC (sndC b76)))))))), .inBlock 0, .code (sndC (sndC (sndC (sndC (sndC b76)))))]
noncomputable def k76_l2 : List Item := [.code (inC (inC (sndC (fstC (sndC (sndC (inC (fstC (sndC (sndC (inC (inC (sndC (fstC (sndC (sndC (sndC (sndC b76)))))))))))))))))), .inLoop (inC (inC (sndC (fstC (sndC (sndC (inC (fstC (sndC (sndC (inC (inC (sndC (fstC (sndC (sndC (sndC (sndC b76)))))))))))))))))), .inBlock 2, .code (sndC (sndC (sndC (inC (fstC (sndC (sndC (inC (inC (sndC (fstC (sndC (sndC (sndC (sndC b76))))))))))))))), .inBlock 1, .code (sndC (sndC (sndC (inC (inC (sndC (fstC (sndC (sndC (sndC (sndC b76))))))))))), .inLoop (inC (inC (sndC (fstC (sndC (sndC (sndC (sndC b76)))))))), .inBlock 0, .code (sndC (sndC (sndC (sndC (sndC b76)))))]
def a76 (f : Func) : List (AV Ty) := [.agg [.v (.string f.name), .v (.bool f.out), .sl false (3 : Nat) f.params, .v (.int .i64 f.result), .sl false (44 : Nat) f.blocks]]
noncomputable def R76 (f : Func) : St Ty → EvR := resT tb C76 Try.f76.results.toList .keep (a76 f)
def s76_l0 (f : Func) (v16 : List Block) (v17 : Int) (v18 : Int) (h0 : ByteArray) (h0_1 : Bool) (h0_2 : List Int) (h0_3 : Int) (h0_4 : List Block) (h1 : ByteArray) (h1_1 : Bool) (h1_2 : List Int) (h1_3 : Int) (h1_4 : List Block) : St Ty := St.mk [(1, .ptr (0) [] (0) (0)), (2, .ptr (1) [] (0) (0)), (16, .sl false (44) v16), (17, .v (.int .i64 v17)), (18, .v (.int .i64 v18))] [some (Root.mk (1033) true [FFunc.mk (Func.mk h0 h0_1 h0_2 h0_3 h0_4) true true]), some (Root.mk (33) true [Func.mk h1 h1_1 h1_2 h1_3 h1_4])]
def s76_l2 (f : Func) (v16 : List Block) (v17 : Int) (v18 : Int) (v23 : List Ins) (v24 : Int) (v25 : Int) (h0 : ByteArray) (h0_1 : Bool) (h0_2 : List Int) (h0_3 : Int) (h0_4 : List Block) (h1 : ByteArray) (h1_1 : Bool) (h1_2 : List Int) (h1_3 : Int) (h1_4 : List Block) (h2 : List Ins) : St Ty := St.mk [(1, .ptr (0) [] (0) (0)), (2, .ptr (1) [] (0) (0)), (6, .ref (2) [] none false), (16, .sl false (44) v16), (17, .v (.int .i64 v17)), (18, .v (.int .i64 v18)), (23, .sl false (46) v23), (24, .v (.int .i64 v24)), (25, .v (.int .i64 v25))] [some (Root.mk (1033) true [FFunc.mk (Func.mk h0 h0_1 h0_2 h0_3 h0_4) true true]), some (Root.mk (33) true [Func.mk h1 h1_1 h1_2 h1_3 h1_4]), some (Root.mk (46) true h2)]
def s76_j0 (f : Func) (h0 : ByteArray) (h0_1 : Bool) (h0_2 : List Int) (h0_3 : Int) (h0_4 : List Block) (h1 : ByteArray) (h1_1 : Bool) (h1_2 : List Int) (h1_3 : Int) (h1_4 : List Block) : St Ty := St.mk [(1, .ptr (0) [] (0) (0)), (2, .ptr (1) [] (0) (0))] [some (Root.mk (1033) true [FFunc.mk (Func.mk h0 h0_1 h0_2 h0_3 h0_4) true true]), some (Root.mk (33) true [Func.mk h1 h1_1 h1_2 h1_3 h1_4])]
def s76_j2 (f : Func) (v16 : List Block) (v17 : Int) (v18 : Int) (h0 : ByteArray) (h0_1 : Bool) (h0_2 : List Int) (h0_3 : Int) (h0_4 : List Block) (h1 : ByteArray) (h1_1 : Bool) (h1_2 : List Int) (h1_3 : Int) (h1_4 : List Block) (h2 : List Ins) : St Ty := St.mk [(1, .ptr (0) [] (0) (0)), (2, .ptr (1) [] (0) (0)), (6, .ref (2) [] none false), (16, .sl false (44) v16), (17, .v (.int .i64 v17)), (18, .v (.int .i64 v18))] [some (Root.mk (1033) true [FFunc.mk (Func.mk h0 h0_1 h0_2 h0_3 h0_4) true true]), some (Root.mk (33) true [Func.mk h1 h1_1 h1_2 h1_3 h1_4]), some (Root.mk (46) true h2)]
def s76_j1 (f : Func) (v16 : List Block) (v17 : Int) (v18 : Int) (h0 : ByteArray) (h0_1 : Bool) (h0_2 : List Int) (h0_3 : Int) (h0_4 : List Block) (h1 : ByteArray) (h1_1 : Bool) (h1_2 : List Int) (h1_3 : Int) (h1_4 : List Block) : St Ty := St.mk [(1, .ptr (0) [] (0) (0)), (2, .ptr (1) [] (0) (0)), (16, .sl false (44) v16), (17, .v (.int .i64 v17)), (18, .v (.int .i64 v18))] [some (Root.mk (1033) true [FFunc.mk (Func.mk h0 h0_1 h0_2 h0_3 h0_4) true true]), some (Root.mk (33) true [Func.mk h1 h1_1 h1_2 h1_3 h1_4])]
theorem e76 (J f) : run tb C76 U76 J (R76 f) 4096 [.code b76] ⟨slotsA (a76 f) 0 0, heapA (a76 f)⟩ =
 if f.params.length ≤ 1000000 then
 J k76_l0 (s76_l0 f f.blocks ((↑f.blocks.length : Int)) 0 f.name f.out f.params f.result ([]) ByteArray.empty false ([]) 0 ([]))
 else none := by kernel_rfl
theorem e76_l0 (J f v16 v17 v18 h0 h0_1 h0_2 h0_3 h0_4 h1 h1_1 h1_2 h1_3 h1_4) : run tb C76 U76 J (R76 f) 4096 k76_l0 (s76_l0 f v16 v17 v18 h0 h0_1 h0_2 h0_3 h0_4 h1 h1_1 h1_2 h1_3 h1_4) =
 if decide (v18 < v17) = true then
 if 0 ≤ v18 then
 if v18 < (↑v16.length : Int) then
 J k76_l2 (s76_l2 f v16 v17 v18 ((v16.getD v18.toNat (Block.mk [])).ins) ((↑(v16.getD v18.toNat (Block.mk [])).ins.length : Int)) 0 h0 h0_1 h0_2 h0_3 h0_4 h1 h1_1 h1_2 h1_3 h1_4 ([]))
 else none
 else none
 else
 J k76_j0 (s76_j0 f h0 h0_1 h0_2 h0_3 h0_4 h1 h1_1 h1_2 h1_3 h1_4) := by kernel_rfl
theorem e76_l2 (J f v16 v17 v18 v23 v24 v25 h0 h0_1 h0_2 h0_3 h0_4 h1 h1_1 h1_2 h1_3 h1_4 h2) : run tb C76 U76 J (R76 f) 4096 k76_l2 (s76_l2 f v16 v17 v18 v23 v24 v25 h0 h0_1 h0_2 h0_3 h0_4 h1 h1_1 h1_2 h1_3 h1_4 h2) =
 if decide (v25 < v24) = true then
 if 0 ≤ v25 then
 if v25 < (↑v23.length : Int) then
 if (v23.getD v25.toNat (Ins.mk 0 0 0 0 0 [] [])).args.length ≤ 1000 ∧ (v23.getD v25.toNat (Ins.mk 0 0 0 0 0 [] [])).into.length ≤ 1000 then
 if h2.length + [Ins.mk (v23.getD v25.toNat (Ins.mk 0 0 0 0 0 [] [])).op (v23.getD v25.toNat (Ins.mk 0 0 0 0 0 [] [])).type_ (v23.getD v25.toNat (Ins.mk 0 0 0 0 0 [] [])).to_ (v23.getD v25.toNat (Ins.mk 0 0 0 0 0 [] [])).sym_ (v23.getD v25.toNat (Ins.mk 0 0 0 0 0 [] [])).num (v23.getD v25.toNat (Ins.mk 0 0 0 0 0 [] [])).args (v23.getD v25.toNat (Ins.mk 0 0 0 0 0 [] [])).into].length + 1 ≤ 549755813888 ∧ (h2.length + [Ins.mk (v23.getD v25.toNat (Ins.mk 0 0 0 0 0 [] [])).op (v23.getD v25.toNat (Ins.mk 0 0 0 0 0 [] [])).type_ (v23.getD v25.toNat (Ins.mk 0 0 0 0 0 [] [])).to_ (v23.getD v25.toNat (Ins.mk 0 0 0 0 0 [] [])).sym_ (v23.getD v25.toNat (Ins.mk 0 0 0 0 0 [] [])).num (v23.getD v25.toNat (Ins.mk 0 0 0 0 0 [] [])).args (v23.getD v25.toNat (Ins.mk 0 0 0 0 0 [] [])).into].length + 1) * 88 ≤ 549755813888 then
 J k76_l2 (s76_l2 f v16 v17 v18 v23 v24 (IntKind.i64.wrap (v25 + 1)) h0 h0_1 h0_2 h0_3 h0_4 h1 h1_1 h1_2 h1_3 h1_4 (h2 ++ [Ins.mk (v23.getD v25.toNat (Ins.mk 0 0 0 0 0 [] [])).op (v23.getD v25.toNat (Ins.mk 0 0 0 0 0 [] [])).type_ (v23.getD v25.toNat (Ins.mk 0 0 0 0 0 [] [])).to_ (v23.getD v25.toNat (Ins.mk 0 0 0 0 0 [] [])).sym_ (v23.getD v25.toNat (Ins.mk 0 0 0 0 0 [] [])).num (v23.getD v25.toNat (Ins.mk 0 0 0 0 0 [] [])).args (v23.getD v25.toNat (Ins.mk 0 0 0 0 0 [] [])).into]))
 else none
 else none
 else none
 else none
 else
 J k76_j2 (s76_j2 f v16 v17 v18 h0 h0_1 h0_2 h0_3 h0_4 h1 h1_1 h1_2 h1_3 h1_4 h2) := by kernel_rfl
theorem e76_j0 (J f h0 h0_1 h0_2 h0_3 h0_4 h1 h1_1 h1_2 h1_3 h1_4) : run tb C76 U76 J (R76 f) 4096 k76_j0 (s76_j0 f h0 h0_1 h0_2 h0_3 h0_4 h1 h1_1 h1_2 h1_3 h1_4) =
 some (.agg [.v (.string h0), .v (.bool h0_1), .sl true 3 h0_2, .v (.int .i64 h0_3), .sl true 44 h0_4], [.dead]) := by kernel_rfl
theorem e76_j2 (J f v16 v17 v18 h0 h0_1 h0_2 h0_3 h0_4 h1 h1_1 h1_2 h1_3 h1_4 h2) : run tb C76 U76 J (R76 f) 4096 k76_j2 (s76_j2 f v16 v17 v18 h0 h0_1 h0_2 h0_3 h0_4 h1 h1_1 h1_2 h1_3 h1_4 h2) =
 if h0_4.length + [Block.mk h2].length + 1 ≤ 549755813888 ∧ (h0_4.length + [Block.mk h2].length + 1) * 24 ≤ 549755813888 then
 J k76_j1 (s76_j1 f v16 v17 v18 h0 h0_1 h0_2 h0_3 (h0_4 ++ [Block.mk h2]) h1 h1_1 h1_2 h1_3 h1_4)
 else none := by kernel_rfl
theorem e76_j1 (J f v16 v17 v18 h0 h0_1 h0_2 h0_3 h0_4 h1 h1_1 h1_2 h1_3 h1_4) : run tb C76 U76 J (R76 f) 4096 k76_j1 (s76_j1 f v16 v17 v18 h0 h0_1 h0_2 h0_3 h0_4 h1 h1_1 h1_2 h1_3 h1_4) =
 J k76_l0 (s76_l0 f v16 v17 (IntKind.i64.wrap (v18 + 1)) h0 h0_1 h0_2 h0_3 h0_4 h1 h1_1 h1_2 h1_3 h1_4) := by kernel_rfl

theorem in76 : Entered 76 := ⟨Try.f76, b76, by kernel_rfl, by kernel_rfl, by kernel_rfl⟩
theorem fn76 (f : Ev.Func) {res : AV Ty} {outs : List (AV Ty)} (h : Ends C76 U76 (R76 f) [.code b76] ⟨slotsA (a76 f) 0 0, heapA (a76 f)⟩ (some (res, outs))) : CallOk tb Try.prog 76 (a76 f) res outs := by
  obtain ⟨n0, hn⟩ := h
  exact fn_ok (C := C76) (U := U76) (n := 0 + n0) (q := .keep) tbOk good (fun f mu S h => by
    unfold C76 at h
    simp only at h
    split at h
    · cases h; exact ⟨in80, S80_ok⟩
    · cases h; exact ⟨in131, S131_ok⟩
    · cases h) mixed (fn := Try.f76) (body := b76) (by kernel_rfl) (by kernel_rfl) rfl rfl (by show 1 ≤ 44; omega) (hn 0)
section
variable {f : Ev.Func}
abbrev cpS (f : Ev.Func) (i : Nat) : St Ty := s76_l0 f f.blocks f.blocks.length i f.name f.out f.params f.result (f.blocks.take i) ByteArray.empty false [] 0 []
theorem Copy.in (h : okF f) {i : Nat} (hi : i < f.blocks.length) {k : Nat} (hk : k < (f.blocks.getD i (Block.mk [])).ins.length) :
    Goes C76 U76 (R76 f) k76_l2 (s76_l2 f f.blocks f.blocks.length i (f.blocks.getD i (Block.mk [])).ins (f.blocks.getD i (Block.mk [])).ins.length k f.name f.out f.params f.result (f.blocks.take i) ByteArray.empty false [] 0 [] ((f.blocks.getD i (Block.mk [])).ins.take k))
      k76_l2 (s76_l2 f f.blocks f.blocks.length i (f.blocks.getD i (Block.mk [])).ins (f.blocks.getD i (Block.mk [])).ins.length (k + 1 : Nat) f.name f.out f.params f.result (f.blocks.take i) ByteArray.empty false [] 0 [] ((f.blocks.getD i (Block.mk [])).ins.take (k + 1))) := .step fun J => by
  have h3 := (h.blk hi).1
  have h4 : okIns ((f.blocks.getD i (Block.mk [])).ins.getD k (Ins.mk 0 0 0 0 0 [] [])) := (h.blk hi).2 _ (getD_mem hk)
  have h5 : ((f.blocks.getD i (Block.mk [])).ins.take k).length ≤ 1000 := by rw [List.length_take]; omega
  unfold okIns at h4
  rw [e76_l2, take_step (d := (Ins.mk 0 0 0 0 0 [] [])) hk]
  simp only [Int.toNat_natCast]
  simp (disch := first | omega | assumption | (rw [decide_eq_true_eq]; omega) | (rw [decide_eq_false_iff_not]; omega)) only [↓if_pos, ↓if_neg, if_true, if_false, wrap_up, Int.toNat_natCast, Nat.zero_add, List.length_singleton]
  rfl
theorem Copy.out (h : okF f) {i : Nat} (hi : i < f.blocks.length) : Goes C76 U76 (R76 f) k76_l0 (cpS f i) k76_l0 (cpS f (i + 1)) := by
  have hb := h.2.1
  refine Goes.trans (k' := k76_l2) (s' := s76_l2 f f.blocks f.blocks.length i (f.blocks.getD i (Block.mk [])).ins (f.blocks.getD i (Block.mk [])).ins.length (0 : Nat) f.name f.out f.params f.result (f.blocks.take i) ByteArray.empty false [] 0 [] ((f.blocks.getD i (Block.mk [])).ins.take 0)) (.step fun J => ?_) ?_
  · rw [cpS, e76_l0]
    simp (disch := first | omega | assumption | (rw [decide_eq_true_eq]; omega) | (rw [decide_eq_false_iff_not]; omega)) only [↓if_pos, ↓if_neg, if_true, if_false, wrap_up, Int.toNat_natCast, Nat.zero_add]
    rfl
  refine Goes.trans (Goes.upto (fun k => s76_l2 f f.blocks f.blocks.length i (f.blocks.getD i (Block.mk [])).ins (f.blocks.getD i (Block.mk [])).ins.length k f.name f.out f.params f.result (f.blocks.take i) ByteArray.empty false [] 0 [] ((f.blocks.getD i (Block.mk [])).ins.take k)) _ (fun k hk => Copy.in h hi hk) _ (Nat.le_refl _)) ?_
  refine Goes.trans (k' := k76_j2) (s' := s76_j2 f f.blocks f.blocks.length i f.name f.out f.params f.result (f.blocks.take i) ByteArray.empty false [] 0 [] (f.blocks.getD i (Block.mk [])).ins) (.step fun J => ?_) (Goes.trans (k' := k76_j1) (s' := s76_j1 f f.blocks f.blocks.length i f.name f.out f.params f.result (f.blocks.take (i + 1)) ByteArray.empty false [] 0 []) (.step fun J => ?_) (.step fun J => ?_))
  · rw [e76_l2]
    simp (disch := first | omega | assumption | (rw [decide_eq_true_eq]; omega) | (rw [decide_eq_false_iff_not]; omega)) only [↓if_pos, ↓if_neg, if_true, if_false, wrap_up, Int.toNat_natCast, Nat.zero_add, List.take_length]
  · have h5 : (f.blocks.take i).length ≤ 1000 := by rw [List.length_take]; omega
    rw [e76_j2, take_step (d := (Block.mk [])) hi]
    simp (disch := first | omega | assumption | (rw [decide_eq_true_eq]; omega) | (rw [decide_eq_false_iff_not]; omega)) only [↓if_pos, ↓if_neg, if_true, if_false, wrap_up, Int.toNat_natCast, Nat.zero_add, List.length_singleton]
  · rw [e76_j1]
    simp (disch := first | omega | assumption | (rw [decide_eq_true_eq]; omega) | (rw [decide_eq_false_iff_not]; omega)) only [↓if_pos, ↓if_neg, if_true, if_false, wrap_up, Int.toNat_natCast, Nat.zero_add]
    rfl
end
theorem copyFunc_ok (f : Ev.Func) (h : okF f) : CallOk tb Try.prog 76 (a76 f) (.agg [.v (.string f.name), .v (.bool f.out), .sl true 3 f.params, .v (.int .i64 f.result), .sl true 44 f.blocks]) [.dead] := by
  have hb := h.2.1
  have hp := h.1
  refine fn76 f (Goes.ends (k' := k76_l0) (s' := cpS f 0) (.step fun J => ?_) ?_)
  · rw [e76]
    simp (disch := first | omega | assumption | (rw [decide_eq_true_eq]; omega) | (rw [decide_eq_false_iff_not]; omega)) only [↓if_pos, ↓if_neg, if_true, if_false, wrap_up, Int.toNat_natCast, Nat.zero_add]
    rfl
  refine Goes.ends (Goes.upto (fun i => cpS f i) f.blocks.length (fun i hi => Copy.out h hi) _ (Nat.le_refl _)) ?_
  refine Goes.ends (k' := k76_j0) (s' := s76_j0 f f.name f.out f.params f.result f.blocks ByteArray.empty false [] 0 []) (.step fun J => ?_) (.step fun J => e76_j0 ..)
  rw [cpS, e76_l0]
  simp (disch := first | omega | assumption | (rw [decide_eq_true_eq]; omega) | (rw [decide_eq_false_iff_not]; omega)) only [↓if_pos, ↓if_neg, if_true, if_false, wrap_up, Int.toNat_natCast, Nat.zero_add, List.take_length]
def S76 : List (AV Ty) → T (AV Ty × List (AV Ty))
  | [.agg x] => match cod33.dec false x with
    | some f => .ite (okF f) (okF.dec f) (.ret (.agg [.v (.string f.name), .v (.bool f.out), .sl true 3 f.params, .v (.int .i64 f.result), .sl true 44 f.blocks], [.dead])) .fail
    | none => .fail
  | _ => .fail
theorem S76_ok (l : List (AV Ty)) (r : AV Ty) (outs : List (AV Ty)) (h : (S76 l).val = some (r, outs)) : CallOk tb Try.prog 76 l r outs := by
  unfold S76 at h
  split at h
  · rename_i x
    split at h
    · rename_i f e1
      rcases ite_val h with ⟨e, h⟩ | ⟨_, h⟩
      · cases h
        have h1 := cod33_ok.dec false x f e1
        subst h1
        exact copyFunc_ok f e
      · cases h
    · cases h
  · cases h
end Go.Proofs.Ytggibjbcbicpjaa.Ev
