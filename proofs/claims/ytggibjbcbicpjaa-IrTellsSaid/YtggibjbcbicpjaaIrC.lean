/- ir.Size, ir.Types, plnref3.Size, plnref3.Types: what they come to. -/
import Derived.Test.YtggibjbcbicpjaaIrB
namespace Go.Proofs.Ytggibjbcbicpjaa.Ev
open Go
set_option linter.unusedVariables false
set_option linter.unusedSimpArgs false
def szT (l : List Ev.Block) : Nat := (l.map fun b => b.ins.length).sum
def tyI (l : List Ev.Ins) : List Int := (l.filter fun i => i.type_ != 0).map fun i => i.type_
def tyB (l : List Ev.Block) : List Int := (l.map fun b => tyI b.ins).flatten
def typesOf (f : Ev.Func) : List Int := [0] ++ f.params ++ tyB f.blocks
def okBl (b : Ev.Block) : Prop := b.ins.length ≤ 1000 ∧ ∀ i, i ∈ b.ins → okIns i
def okF (f : Ev.Func) : Prop := f.params.length ≤ 1000 ∧ f.blocks.length ≤ 1000 ∧ ∀ b, b ∈ f.blocks → okBl b
instance okBl.dec (b : Ev.Block) : Decidable (okBl b) := by unfold okBl; infer_instance
instance okF.dec (f : Ev.Func) : Decidable (okF f) := by unfold okF; infer_instance
theorem take_step {α : Type} {l : List α} {d : α} {i : Nat} (h : i < l.length) : l.take (i + 1) = l.take i ++ [l.getD i d] := by
  rw [List.take_add_one, List.getD_eq_getElem?_getD, List.getElem?_eq_getElem h]
  rfl
theorem getD_mem {α : Type} {l : List α} {d : α} {i : Nat} (h : i < l.length) : l.getD i d ∈ l := by
  rw [List.getD_eq_getElem?_getD, List.getElem?_eq_getElem h]
  exact List.getElem_mem h
theorem sum_le {l : List Ev.Block} {n : Nat} (h : ∀ b, b ∈ l → b.ins.length ≤ n) : szT l ≤ l.length * n := by
  induction l with
  | nil => simp [szT]
  | cons b l ih =>
    have := ih fun x hx => h x (List.mem_cons_of_mem _ hx)
    have h2 := h b List.mem_cons_self
    simp only [szT, List.map_cons, List.sum_cons, List.length_cons, Nat.succ_mul] at this ⊢
    omega
theorem szT_step {l : List Ev.Block} {i : Nat} (h : i < l.length) : szT (l.take (i + 1)) = szT (l.take i) + (l.getD i (Block.mk [])).ins.length := by
  rw [take_step (d := (Block.mk [])) h]
  simp [szT]
theorem tyI_step {l : List Ev.Ins} {i : Nat} (h : i < l.length) : tyI (l.take (i + 1)) = tyI (l.take i) ++ (if (l.getD i (Ins.mk 0 0 0 0 0 [] [])).type_ != 0 then [(l.getD i (Ins.mk 0 0 0 0 0 [] [])).type_] else []) := by
  rw [take_step (d := (Ins.mk 0 0 0 0 0 [] [])) h]
  simp only [tyI, List.filter_append, List.map_append, List.filter_cons, List.filter_nil]
  by_cases h : ((l.getD i (Ins.mk 0 0 0 0 0 [] [])).type_ != 0) = true
  · rw [if_pos h, if_pos h]; rfl
  · rw [if_neg h, if_neg h]; rfl
theorem tyB_step {l : List Ev.Block} {i : Nat} (h : i < l.length) : tyB (l.take (i + 1)) = tyB (l.take i) ++ tyI (l.getD i (Block.mk [])).ins := by
  rw [take_step (d := (Block.mk [])) h]
  simp [tyB]
theorem tyI_le (l : List Ev.Ins) : (tyI l).length ≤ l.length := by
  rw [tyI, List.length_map]
  exact List.length_filter_le _ _
theorem tyB_le (l : List Ev.Block) : (tyB l).length ≤ szT l := by
  induction l with
  | nil => simp [tyB, szT]
  | cons b l ih =>
    have := tyI_le b.ins
    simp only [tyB, szT, List.map_cons, List.flatten_cons, List.sum_cons, List.length_append] at ih ⊢
    omega
section
variable {f : Ev.Func}
theorem okF.blk (h : okF f) {i : Nat} (hi : i < f.blocks.length) : okBl (f.blocks.getD i (Block.mk [])) := h.2.2 _ (getD_mem hi)
theorem okF.szt (h : okF f) (i : Nat) : szT (f.blocks.take i) ≤ 1000000 := by
  have := sum_le (l := f.blocks.take i) (n := 1000) fun b hb => (h.2.2 b (List.mem_of_mem_take hb)).1
  have h2 : (f.blocks.take i).length ≤ 1000 := by rw [List.length_take]; have := h.2.1; omega
  have := Nat.mul_le_mul_right 1000 h2
  omega
theorem okF.sz (h : okF f) : szT f.blocks ≤ 1000000 := by
  have := h.szt f.blocks.length
  rwa [List.take_length] at this
end
noncomputable def b51 : Code := bodyOf Try.f51
def C51 : Cfg Ty := ⟨fun _ => none, fun _ => false, 20, 0⟩
def U51 : Cuts := ⟨fun
  | 0 => some [(3, none)]
  | _ => none, fun
  | 0 => some [(3, none), (7, none), (8, none), (9, none)]
  | _ => none, fun _ => none⟩
noncomputable def k51_j0 : List Item := [.code (sndC (sndC (sndC b51)))]
noncomputable def k51_l0 : List Item := [.code (inC (inC (sndC (fstC (sndC (sndC b51)))))), .inLoop (inC (inC (sndC (fstC (sndC (sndC b51)))))), .inBlock 0, .code (sndC (sndC (sndC b51)))]
def a51 (f : Func) : List (AV Ty) := [.agg [.v (.string f.name), .v (.bool f.out), .sl false (3 : Nat) f.params, .v (.int .i64 f.result), .sl false (44 : Nat) f.blocks]]
noncomputable def R51 (f : Func) : St Ty → EvR := resT tb C51 Try.f51.results.toList .keep (a51 f)
def s51_l0 (f : Func) (v3 : Int) (v7 : List Block) (v8 : Int) (v9 : Int) : St Ty := St.mk [(3, .v (.int .i64 v3)), (7, .sl false (44) v7), (8, .v (.int .i64 v8)), (9, .v (.int .i64 v9))] []
def s51_j0 (f : Func) (v3 : Int) : St Ty := St.mk [(3, .v (.int .i64 v3))] []
theorem e51 (J f) : run tb C51 U51 J (R51 f) 4096 [.code b51] ⟨slotsA (a51 f) 0 0, heapA (a51 f)⟩ =
 J k51_l0 (s51_l0 f 0 f.blocks ((↑f.blocks.length : Int)) 0) := by kernel_rfl
theorem e51_l0 (J f v3 v7 v8 v9) : run tb C51 U51 J (R51 f) 4096 k51_l0 (s51_l0 f v3 v7 v8 v9) =
 if decide (v9 < v8) = true then
 if 0 ≤ v9 then
 if v9 < (↑v7.length : Int) then
 J k51_l0 (s51_l0 f (IntKind.i64.wrap (v3 + (↑(v7.getD v9.toNat (Block.mk [])).ins.length : Int))) v7 v8 (IntKind.i64.wrap (v9 + 1)))
 else none
 else none
 else
 J k51_j0 (s51_j0 f v3) := by kernel_rfl
theorem e51_j0 (J f v3) : run tb C51 U51 J (R51 f) 4096 k51_j0 (s51_j0 f v3) =
 some (.v (.int .i64 v3), [.dead]) := by kernel_rfl

theorem in51 : Entered 51 := ⟨Try.f51, b51, by kernel_rfl, by kernel_rfl, by kernel_rfl⟩
theorem fn51 (f : Ev.Func) {res : AV Ty} {outs : List (AV Ty)} (h : Ends C51 U51 (R51 f) [.code b51] ⟨slotsA (a51 f) 0 0, heapA (a51 f)⟩ (some (res, outs))) : CallOk tb Try.prog 51 (a51 f) res outs := by
  obtain ⟨n0, hn⟩ := h
  exact fn_ok (C := C51) (U := U51) (n := 0 + n0) (q := .keep) tbOk good (fun f mu S h => by cases h) mixed (fn := Try.f51) (body := b51) (by kernel_rfl) (by kernel_rfl) rfl rfl (by show 1 ≤ 20; omega) (hn 0)
theorem size_ok (f : Ev.Func) (h : okF f) : CallOk tb Try.prog 51 (a51 f) (.v (.int .i64 (szT f.blocks))) [.dead] := by
  refine fn51 f (Goes.ends (.step fun J => e51 J f) ?_)
  have hb := h.2.1
  have step : ∀ i, i < f.blocks.length → Goes C51 U51 (R51 f) k51_l0 (s51_l0 f (szT (f.blocks.take i)) f.blocks f.blocks.length i) k51_l0 (s51_l0 f (szT (f.blocks.take (i + 1))) f.blocks f.blocks.length (i + 1 : Nat)) := fun i hi => .step fun J => by
    have h1 := h.szt (i + 1)
    have h2 := szT_step hi
    have h3 := (h.blk hi).1
    rw [e51_l0, h2]
    simp (disch := first | omega | assumption | (rw [decide_eq_true_eq]; omega) | (rw [decide_eq_false_iff_not]; omega)) only [↓if_pos, ↓if_neg, if_true, if_false, wrap_up, Int.toNat_natCast, Nat.zero_add]
    rfl
  refine Goes.ends (Goes.upto (fun i => s51_l0 f (szT (f.blocks.take i)) f.blocks f.blocks.length i) f.blocks.length step _ (Nat.le_refl _)) ?_
  refine Goes.ends (k' := k51_j0) (s' := s51_j0 f (szT f.blocks)) (.step fun J => ?_) (.step fun J => e51_j0 J f _)
  rw [e51_l0]
  simp (disch := first | omega | assumption | (rw [decide_eq_true_eq]; omega) | (rw [decide_eq_false_iff_not]; omega)) only [↓if_pos, ↓if_neg, if_true, if_false, wrap_up, Int.toNat_natCast, Nat.zero_add, List.take_length]
noncomputable def b28 : Code := bodyOf Try.f28
def C28 : Cfg Ty := ⟨fun _ => none, fun _ => false, 22, 0⟩
def U28 : Cuts := ⟨fun
  | 0 => some [(3, none)]
  | _ => none, fun
  | 0 => some [(1, none), (3, none), (4, none)]
  | _ => none, fun _ => none⟩
noncomputable def k28_j0 : List Item := [.code (sndC (sndC (sndC b28)))]
noncomputable def k28_l0 : List Item := [.code (inC (inC (sndC (fstC (sndC (sndC b28)))))), .inLoop (inC (inC (sndC (fstC (sndC (sndC b28)))))), .inBlock 0, .code (sndC (sndC (sndC b28)))]
def a28 (f : Func) : List (AV Ty) := [.agg [.v (.string f.name), .v (.bool f.out), .sl false (3 : Nat) f.params, .v (.int .i64 f.result), .sl false (44 : Nat) f.blocks]]
noncomputable def R28 (f : Func) : St Ty → EvR := resT tb C28 Try.f28.results.toList .keep (a28 f)
def s28_l0 (f : Func) (v3 : Int) (v4 : Int) (h0 : List Func) : St Ty := St.mk [(1, .ptr (0) [] (0) (0)), (3, .v (.int .i64 v3)), (4, .v (.int .i64 v4))] [some (Root.mk (33) false h0)]
def s28_j0 (f : Func) (v3 : Int) : St Ty := St.mk [(3, .v (.int .i64 v3))] []
theorem e28 (J f) : run tb C28 U28 J (R28 f) 4096 [.code b28] ⟨slotsA (a28 f) 0 0, heapA (a28 f)⟩ =
 J k28_l0 (s28_l0 f 0 0 ([Func.mk f.name f.out f.params f.result f.blocks])) := by kernel_rfl
theorem e28_l0 (J f v3 v4 h0) : run tb C28 U28 J (R28 f) 4096 k28_l0 (s28_l0 f v3 v4 h0) =
 if decide (v4 < (↑(h0.getD (0) (Func.mk ByteArray.empty false [] 0 [])).blocks.length : Int)) = true then
 if 0 ≤ v4 then
 if v4 < (↑(h0.getD (0) (Func.mk ByteArray.empty false [] 0 [])).blocks.length : Int) then
 J k28_l0 (s28_l0 f (IntKind.i64.wrap (v3 + (↑((h0.getD (0) (Func.mk ByteArray.empty false [] 0 [])).blocks.getD v4.toNat (Block.mk [])).ins.length : Int))) (IntKind.i64.wrap (v4 + 1)) h0)
 else none
 else none
 else
 J k28_j0 (s28_j0 f v3) := by kernel_rfl
theorem e28_j0 (J f v3) : run tb C28 U28 J (R28 f) 4096 k28_j0 (s28_j0 f v3) =
 some (.v (.int .i64 v3), [.dead]) := by kernel_rfl

theorem in28 : Entered 28 := ⟨Try.f28, b28, by kernel_rfl, by kernel_rfl, by kernel_rfl⟩
theorem fn28 (f : Ev.Func) {res : AV Ty} {outs : List (AV Ty)} (h : Ends C28 U28 (R28 f) [.code b28] ⟨slotsA (a28 f) 0 0, heapA (a28 f)⟩ (some (res, outs))) : CallOk tb Try.prog 28 (a28 f) res outs := by
  obtain ⟨n0, hn⟩ := h
  exact fn_ok (C := C28) (U := U28) (n := 0 + n0) (q := .keep) tbOk good (fun f mu S h => by cases h) mixed (fn := Try.f28) (body := b28) (by kernel_rfl) (by kernel_rfl) rfl rfl (by show 1 ≤ 22; omega) (hn 0)
theorem rsize_ok (f : Ev.Func) (h : okF f) : CallOk tb Try.prog 28 (a28 f) (.v (.int .i64 (szT f.blocks))) [.dead] := by
  refine fn28 f (Goes.ends (.step fun J => e28 J f) ?_)
  have hb := h.2.1
  have step : ∀ i, i < f.blocks.length → Goes C28 U28 (R28 f) k28_l0 (s28_l0 f (szT (f.blocks.take i)) i [f]) k28_l0 (s28_l0 f (szT (f.blocks.take (i + 1))) (i + 1 : Nat) [f]) := fun i hi => .step fun J => by
    have h1 := h.szt (i + 1)
    have h2 := szT_step hi
    have h3 := (h.blk hi).1
    rw [e28_l0, h2]
    simp only [List.getD_cons_zero, Int.toNat_natCast]
    simp (disch := first | omega | assumption | (rw [decide_eq_true_eq]; omega) | (rw [decide_eq_false_iff_not]; omega)) only [↓if_pos, ↓if_neg, if_true, if_false, wrap_up, Int.toNat_natCast, Nat.zero_add]
    rfl
  refine Goes.ends (Goes.upto (fun i => s28_l0 f (szT (f.blocks.take i)) i [f]) f.blocks.length step _ (Nat.le_refl _)) ?_
  refine Goes.ends (k' := k28_j0) (s' := s28_j0 f (szT f.blocks)) (.step fun J => ?_) (.step fun J => e28_j0 J f _)
  rw [e28_l0]
  simp only [List.getD_cons_zero, Int.toNat_natCast]
  simp (disch := first | omega | assumption | (rw [decide_eq_true_eq]; omega) | (rw [decide_eq_false_iff_not]; omega)) only [↓if_pos, ↓if_neg, if_true, if_false, wrap_up, Int.toNat_natCast, Nat.zero_add, List.take_length]
noncomputable def b52 : Code := bodyOf Try.f52
noncomputable def C52 : Cfg Ty := ⟨fun _ => none, fun
  | 3 => true
  | 8 => true
  | 11 => true
  | 33 => true
  | 32 => true
  | 2 => true
  | _ => false, 37, 0⟩
def U52 : Cuts := ⟨fun
  | 0 => some [(3, some 3)]
  | 1 => some [(3, some 3), (13, none), (14, none), (15, none)]
  | 2 => some [(3, some 3), (13, none), (14, none), (15, none)]
  | _ => none, fun
  | 0 => some [(3, some 3), (13, none), (14, none), (15, none)]
  | 2 => some [(3, some 3), (13, none), (14, none), (15, none), (20, none), (21, none), (22, none)]
  | _ => none, fun _ => none⟩
noncomputable def k52_j0 : List Item := [.code (sndC (sndC (sndC b52)))]
noncomputable def k52_l0 : List Item := [.code (inC (inC (sndC (fstC (sndC (sndC b52)))))), .inLoop (inC (inC (sndC (fstC (sndC (sndC b52)))))), .inBlock 0, .code (sndC (sndC (sndC b52)))]
noncomputable def k52_j1 : List Item := [.code (sndC (sndC (sndC (inC (inC (sndC (fstC (sndC (sndC b52))))))))), .inLoop (inC (inC (sndC (fstC (sndC (sndC b52)))))), .inBlock 0, .code (sndC (sndC (sndC b52)))]
noncomputable def k52_j2 : List Item := [.inBlock 1, .code (sndC (sndC (sndC (inC (inC (sndC (fstC (sndC (sndC b52))))))))), .inLoop (inC (inC (sndC (fstC (sndC (sndC b52)))))), .inBlock 0, .code (sndC (sndC (sndC b52)))]
noncomputable def k52_l2 : List Item := [.code (inC (inC (sndC (sndC (inC (fstC (sndC (sndC (inC (inC (sndC (fstC (sndC (sndC b52)))))))))))))), .inLoop (inC (inC (sndC (sndC (inC (fstC (sndC (sndC (inC (inC (sndC (fstC (sndC (sndC b52)))))))))))))), .inBlock 2, .inBlock 1, .code (sndC (sndC (sndC (inC (inC (sndC (fstC (sndC (sndC b52))))))))), .inLoop (inC (inC (sndC (fstC (sndC (sndC b52)))))), .inBlock 0, .code (sndC (sndC (sndC b52)))]
def a52 (f : Func) : List (AV Ty) := [.agg [.v (.string f.name), .v (.bool f.out), .sl false (3 : Nat) f.params, .v (.int .i64 f.result), .sl false (44 : Nat) f.blocks]]
noncomputable def R52 (f : Func) : St Ty → EvR := resT tb C52 Try.f52.results.toList (.own 3) (a52 f)
def s52_l0 (f : Func) (v13 : List Block) (v14 : Int) (v15 : Int) (h0 : List Int) : St Ty := St.mk [(3, .ref (0) [] none false), (13, .sl false (44) v13), (14, .v (.int .i64 v14)), (15, .v (.int .i64 v15))] [some (Root.mk (3) true h0)]
def s52_l2 (f : Func) (v13 : List Block) (v14 : Int) (v15 : Int) (v20 : List Ins) (v21 : Int) (v22 : Int) (h0 : List Int) : St Ty := St.mk [(3, .ref (0) [] none false), (13, .sl false (44) v13), (14, .v (.int .i64 v14)), (15, .v (.int .i64 v15)), (20, .sl false (46) v20), (21, .v (.int .i64 v21)), (22, .v (.int .i64 v22))] [some (Root.mk (3) true h0)]
def s52_j0 (f : Func) (h0 : List Int) : St Ty := St.mk [(3, .ref (0) [] none false)] [some (Root.mk (3) true h0)]
def s52_j2 (f : Func) (v13 : List Block) (v14 : Int) (v15 : Int) (h0 : List Int) : St Ty := St.mk [(3, .ref (0) [] none false), (13, .sl false (44) v13), (14, .v (.int .i64 v14)), (15, .v (.int .i64 v15))] [some (Root.mk (3) true h0)]
def s52_j1 (f : Func) (v13 : List Block) (v14 : Int) (v15 : Int) (h0 : List Int) : St Ty := St.mk [(3, .ref (0) [] none false), (13, .sl false (44) v13), (14, .v (.int .i64 v14)), (15, .v (.int .i64 v15))] [some (Root.mk (3) true h0)]
theorem e52 (J f) : run tb C52 U52 J (R52 f) 4096 [.code b52] ⟨slotsA (a52 f) 0 0, heapA (a52 f)⟩ =
 if [0].length + f.params.length + 1 ≤ 549755813888 ∧ ([0].length + f.params.length + 1) * 8 ≤ 549755813888 then
 J k52_l0 (s52_l0 f f.blocks ((↑f.blocks.length : Int)) 0 ([0] ++ f.params))
 else none := by kernel_rfl
theorem e52_l0 (J f v13 v14 v15 h0) : run tb C52 U52 J (R52 f) 4096 k52_l0 (s52_l0 f v13 v14 v15 h0) =
 if decide (v15 < v14) = true then
 if 0 ≤ v15 then
 if v15 < (↑v13.length : Int) then
 J k52_l2 (s52_l2 f v13 v14 v15 ((v13.getD v15.toNat (Block.mk [])).ins) ((↑(v13.getD v15.toNat (Block.mk [])).ins.length : Int)) 0 h0)
 else none
 else none
 else
 J k52_j0 (s52_j0 f h0) := by kernel_rfl
theorem e52_l2 (J f v13 v14 v15 v20 v21 v22 h0) : run tb C52 U52 J (R52 f) 4096 k52_l2 (s52_l2 f v13 v14 v15 v20 v21 v22 h0) =
 if decide (v22 < v21) = true then
 if 0 ≤ v22 then
 if v22 < (↑v20.length : Int) then
 if ((v20.getD v22.toNat (Ins.mk 0 0 0 0 0 [] [])).type_ != 0) = true then
 if h0.length + [(v20.getD v22.toNat (Ins.mk 0 0 0 0 0 [] [])).type_].length + 1 ≤ 549755813888 ∧ (h0.length + [(v20.getD v22.toNat (Ins.mk 0 0 0 0 0 [] [])).type_].length + 1) * 8 ≤ 549755813888 then
 J k52_l2 (s52_l2 f v13 v14 v15 v20 v21 (IntKind.i64.wrap (v22 + 1)) (h0 ++ [(v20.getD v22.toNat (Ins.mk 0 0 0 0 0 [] [])).type_]))
 else none
 else
 J k52_l2 (s52_l2 f v13 v14 v15 v20 v21 (IntKind.i64.wrap (v22 + 1)) h0)
 else none
 else none
 else
 J k52_j2 (s52_j2 f v13 v14 v15 h0) := by kernel_rfl
theorem e52_j0 (J f h0) : run tb C52 U52 J (R52 f) 4096 k52_j0 (s52_j0 f h0) =
 some (.sl true (3) h0, [.dead]) := by kernel_rfl
theorem e52_j2 (J f v13 v14 v15 h0) : run tb C52 U52 J (R52 f) 4096 k52_j2 (s52_j2 f v13 v14 v15 h0) =
 J k52_j1 (s52_j1 f v13 v14 v15 h0) := by kernel_rfl
theorem e52_j1 (J f v13 v14 v15 h0) : run tb C52 U52 J (R52 f) 4096 k52_j1 (s52_j1 f v13 v14 v15 h0) =
 J k52_l0 (s52_l0 f v13 v14 (IntKind.i64.wrap (v15 + 1)) h0) := by kernel_rfl

theorem in52 : Entered 52 := ⟨Try.f52, b52, by kernel_rfl, by kernel_rfl, by kernel_rfl⟩
theorem fn52 (f : Ev.Func) {res : AV Ty} {outs : List (AV Ty)} (h : Ends C52 U52 (R52 f) [.code b52] ⟨slotsA (a52 f) 0 0, heapA (a52 f)⟩ (some (res, outs))) : CallOk tb Try.prog 52 (a52 f) res outs := by
  obtain ⟨n0, hn⟩ := h
  exact fn_ok (C := C52) (U := U52) (n := 0 + n0) (q := (.own 3)) tbOk good (fun f mu S h => by cases h) mixed (fn := Try.f52) (body := b52) (by kernel_rfl) (by kernel_rfl) rfl rfl (by show 1 ≤ 37; omega) (hn 0)
section
variable {f : Ev.Func}
theorem okF.tyl (h : okF f) {i k : Nat} (hi : i < f.blocks.length) (hk : k < (f.blocks.getD i (Block.mk [])).ins.length) : ([0] ++ f.params ++ tyB (f.blocks.take i) ++ tyI ((f.blocks.getD i (Block.mk [])).ins.take k)).length ≤ 2000000 := by
  have h1 := h.szt i
  have h2 := tyB_le (f.blocks.take i)
  have h3 := tyI_le ((f.blocks.getD i (Block.mk [])).ins.take k)
  have h4 := (h.blk hi).1
  have h5 := h.1
  rw [List.length_take] at h3
  simp only [List.length_append, List.length_cons, List.length_nil]
  omega
theorem Types.in (h : okF f) {i : Nat} (hi : i < f.blocks.length) {k : Nat} (hk : k < (f.blocks.getD i (Block.mk [])).ins.length) :
    Goes C52 U52 (R52 f) k52_l2 (s52_l2 f f.blocks f.blocks.length i (f.blocks.getD i (Block.mk [])).ins (f.blocks.getD i (Block.mk [])).ins.length k ([0] ++ f.params ++ tyB (f.blocks.take i) ++ tyI ((f.blocks.getD i (Block.mk [])).ins.take k)))
      k52_l2 (s52_l2 f f.blocks f.blocks.length i (f.blocks.getD i (Block.mk [])).ins (f.blocks.getD i (Block.mk [])).ins.length (k + 1 : Nat) ([0] ++ f.params ++ tyB (f.blocks.take i) ++ tyI ((f.blocks.getD i (Block.mk [])).ins.take (k + 1)))) := .step fun J => by
  have h1 := h.tyl hi hk
  have h3 := (h.blk hi).1
  rw [e52_l2, tyI_step hk]
  by_cases ht : (((f.blocks.getD i (Block.mk [])).ins.getD k (Ins.mk 0 0 0 0 0 [] [])).type_ != 0) = true
  · rw [if_pos ht, ← List.append_assoc]
    simp (disch := first | omega | assumption | (rw [decide_eq_true_eq]; omega) | (rw [decide_eq_false_iff_not]; omega)) only [↓if_pos, ↓if_neg, if_true, if_false, wrap_up, Int.toNat_natCast, Nat.zero_add, List.length_singleton]
    rfl
  · rw [if_neg ht, List.append_nil]
    simp (disch := first | omega | assumption | (rw [decide_eq_true_eq]; omega) | (rw [decide_eq_false_iff_not]; omega)) only [↓if_pos, ↓if_neg, if_true, if_false, wrap_up, Int.toNat_natCast, Nat.zero_add]
    rfl
theorem Types.out (h : okF f) {i : Nat} (hi : i < f.blocks.length) :
    Goes C52 U52 (R52 f) k52_l0 (s52_l0 f f.blocks f.blocks.length i ([0] ++ f.params ++ tyB (f.blocks.take i))) k52_l0 (s52_l0 f f.blocks f.blocks.length (i + 1 : Nat) ([0] ++ f.params ++ tyB (f.blocks.take (i + 1)))) := by
  have hb := h.2.1
  refine Goes.trans (k' := k52_l2) (s' := s52_l2 f f.blocks f.blocks.length i (f.blocks.getD i (Block.mk [])).ins (f.blocks.getD i (Block.mk [])).ins.length (0 : Nat) ([0] ++ f.params ++ tyB (f.blocks.take i) ++ tyI ((f.blocks.getD i (Block.mk [])).ins.take 0))) (.step fun J => ?_) ?_
  · rw [e52_l0]
    simp (disch := first | omega | assumption | (rw [decide_eq_true_eq]; omega) | (rw [decide_eq_false_iff_not]; omega)) only [↓if_pos, ↓if_neg, if_true, if_false, wrap_up, Int.toNat_natCast, Nat.zero_add]
    simp only [List.take_zero]
    rw [show tyI [] = [] from rfl, List.append_nil]
    rfl
  refine Goes.trans (Goes.upto (fun k => s52_l2 f f.blocks f.blocks.length i (f.blocks.getD i (Block.mk [])).ins (f.blocks.getD i (Block.mk [])).ins.length k ([0] ++ f.params ++ tyB (f.blocks.take i) ++ tyI ((f.blocks.getD i (Block.mk [])).ins.take k))) _ (fun k hk => Types.in h hi hk) _ (Nat.le_refl _)) ?_
  refine Goes.trans (k' := k52_j2) (s' := s52_j2 f f.blocks f.blocks.length i ([0] ++ f.params ++ tyB (f.blocks.take (i + 1)))) (.step fun J => ?_) (Goes.trans (.step fun J => e52_j2 ..) (.step fun J => ?_))
  · rw [e52_l2, tyB_step hi, ← List.append_assoc]
    simp (disch := first | omega | assumption | (rw [decide_eq_true_eq]; omega) | (rw [decide_eq_false_iff_not]; omega)) only [↓if_pos, ↓if_neg, if_true, if_false, wrap_up, Int.toNat_natCast, Nat.zero_add, List.take_length]
  · rw [e52_j1]
    simp (disch := first | omega | assumption | (rw [decide_eq_true_eq]; omega) | (rw [decide_eq_false_iff_not]; omega)) only [↓if_pos, ↓if_neg, if_true, if_false, wrap_up, Int.toNat_natCast, Nat.zero_add]
    rfl
end
theorem types_ok (f : Ev.Func) (h : okF f) : CallOk tb Try.prog 52 (a52 f) (.sl true 3 (typesOf f)) [.dead] := by
  have hb := h.2.1
  have hp := h.1
  refine fn52 f (Goes.ends (k' := k52_l0) (s' := s52_l0 f f.blocks f.blocks.length (0 : Nat) ([0] ++ f.params ++ tyB (f.blocks.take 0))) (.step fun J => ?_) ?_)
  · rw [e52]
    simp (disch := first | omega | assumption | (rw [decide_eq_true_eq]; omega) | (rw [decide_eq_false_iff_not]; omega)) only [↓if_pos, ↓if_neg, if_true, if_false, wrap_up, Int.toNat_natCast, Nat.zero_add, List.length_singleton, List.take_zero]
    rw [show tyB [] = [] from rfl, List.append_nil]
    rfl
  refine Goes.ends (Goes.upto (fun i => s52_l0 f f.blocks f.blocks.length i ([0] ++ f.params ++ tyB (f.blocks.take i))) f.blocks.length (fun i hi => Types.out h hi) _ (Nat.le_refl _)) ?_
  refine Goes.ends (k' := k52_j0) (s' := s52_j0 f (typesOf f)) (.step fun J => ?_) (.step fun J => e52_j0 J f _)
  rw [e52_l0]
  simp (disch := first | omega | assumption | (rw [decide_eq_true_eq]; omega) | (rw [decide_eq_false_iff_not]; omega)) only [↓if_pos, ↓if_neg, if_true, if_false, wrap_up, Int.toNat_natCast, Nat.zero_add, List.take_length]
  rfl
noncomputable def b30 : Code := bodyOf Try.f30
noncomputable def C30 : Cfg Ty := ⟨fun _ => none, fun
  | 3 => true
  | 7 => true
  | 10 => true
  | 43 => true
  | 44 => true
  | 2 => true
  | _ => false, 46, 0⟩
def U30 : Cuts := ⟨fun
  | 0 => some [(3, some 3)]
  | 1 => some [(1, none), (3, some 3), (4, none)]
  | 2 => some [(1, none), (3, some 3), (4, none)]
  | _ => none, fun
  | 0 => some [(1, none), (3, some 3), (4, none)]
  | 2 => some [(1, none), (3, some 3), (4, none), (5, none)]
  | _ => none, fun _ => none⟩
noncomputable def k30_j0 : List Item := [.code (sndC (sndC (sndC b30)))]
noncomputable def k30_l0 : List Item := [.code (inC (inC (sndC (fstC (sndC (sndC b30)))))), .inLoop (inC (inC (sndC (fstC (sndC (sndC b30)))))), .inBlock 0, .code (sndC (sndC (sndC b30)))]
noncomputable def k30_j1 : List Item := [.code (sndC (sndC (inC (inC (sndC (fstC (sndC (sndC b30)))))))), .inLoop (inC (inC (sndC (fstC (sndC (sndC b30)))))), .inBlock 0, .code (sndC (sndC (sndC b30)))]
noncomputable def k30_j2 : List Item := [.inBlock 1, .code (sndC (sndC (inC (inC (sndC (fstC (sndC (sndC b30)))))))), .inLoop (inC (inC (sndC (fstC (sndC (sndC b30)))))), .inBlock 0, .code (sndC (sndC (sndC b30)))]
noncomputable def k30_l2 : List Item := [.code (inC (inC (sndC (inC (fstC (sndC (inC (inC (sndC (fstC (sndC (sndC b30)))))))))))), .inLoop (inC (inC (sndC (inC (fstC (sndC (inC (inC (sndC (fstC (sndC (sndC b30)))))))))))), .inBlock 2, .inBlock 1, .code (sndC (sndC (inC (inC (sndC (fstC (sndC (sndC b30)))))))), .inLoop (inC (inC (sndC (fstC (sndC (sndC b30)))))), .inBlock 0, .code (sndC (sndC (sndC b30)))]
def a30 (f : Func) : List (AV Ty) := [.agg [.v (.string f.name), .v (.bool f.out), .sl false (3 : Nat) f.params, .v (.int .i64 f.result), .sl false (44 : Nat) f.blocks]]
noncomputable def R30 (f : Func) : St Ty → EvR := resT tb C30 Try.f30.results.toList (.own 3) (a30 f)
def s30_l0 (f : Func) (v4 : Int) (h0 : List Func) (h1 : List Int) : St Ty := St.mk [(1, .ptr (0) [] (0) (0)), (3, .ref (1) [] none false), (4, .v (.int .i64 v4))] [some (Root.mk (33) false h0), some (Root.mk (3) true h1)]
def s30_l2 (f : Func) (v4 : Int) (v5 : Int) (h0 : List Func) (h1 : List Int) : St Ty := St.mk [(1, .ptr (0) [] (0) (0)), (3, .ref (1) [] none false), (4, .v (.int .i64 v4)), (5, .v (.int .i64 v5))] [some (Root.mk (33) false h0), some (Root.mk (3) true h1)]
def s30_j0 (f : Func) (h0 : List Int) : St Ty := St.mk [(3, .ref (0) [] none false)] [some (Root.mk (3) true h0)]
def s30_j2 (f : Func) (v4 : Int) (h0 : List Func) (h1 : List Int) : St Ty := St.mk [(1, .ptr (0) [] (0) (0)), (3, .ref (1) [] none false), (4, .v (.int .i64 v4))] [some (Root.mk (33) false h0), some (Root.mk (3) true h1)]
def s30_j1 (f : Func) (v4 : Int) (h0 : List Func) (h1 : List Int) : St Ty := St.mk [(1, .ptr (0) [] (0) (0)), (3, .ref (1) [] none false), (4, .v (.int .i64 v4))] [some (Root.mk (33) false h0), some (Root.mk (3) true h1)]
theorem e30 (J f) : run tb C30 U30 J (R30 f) 4096 [.code b30] ⟨slotsA (a30 f) 0 0, heapA (a30 f)⟩ =
 if [0].length + f.params.length + 1 ≤ 549755813888 ∧ ([0].length + f.params.length + 1) * 8 ≤ 549755813888 then
 J k30_l0 (s30_l0 f 0 ([Func.mk f.name f.out f.params f.result f.blocks]) ([0] ++ f.params))
 else none := by kernel_rfl
theorem e30_l0 (J f v4 h0 h1) : run tb C30 U30 J (R30 f) 4096 k30_l0 (s30_l0 f v4 h0 h1) =
 if decide (v4 < (↑(h0.getD (0) (Func.mk ByteArray.empty false [] 0 [])).blocks.length : Int)) = true then
 J k30_l2 (s30_l2 f v4 0 h0 h1)
 else
 J k30_j0 (s30_j0 f h1) := by kernel_rfl
theorem e30_l2 (J f v4 v5 h0 h1) : run tb C30 U30 J (R30 f) 4096 k30_l2 (s30_l2 f v4 v5 h0 h1) =
 if 0 ≤ v4 then
 if v4 < (↑(h0.getD (0) (Func.mk ByteArray.empty false [] 0 [])).blocks.length : Int) then
 if decide (v5 < (↑((h0.getD (0) (Func.mk ByteArray.empty false [] 0 [])).blocks.getD v4.toNat (Block.mk [])).ins.length : Int)) = true then
 if 0 ≤ v4 then
 if v4 < (↑(h0.getD (0) (Func.mk ByteArray.empty false [] 0 [])).blocks.length : Int) then
 if 0 ≤ v5 then
 if v5 < (↑((h0.getD (0) (Func.mk ByteArray.empty false [] 0 [])).blocks.getD v4.toNat (Block.mk [])).ins.length : Int) then
 if ((((h0.getD (0) (Func.mk ByteArray.empty false [] 0 [])).blocks.getD v4.toNat (Block.mk [])).ins.getD v5.toNat (Ins.mk 0 0 0 0 0 [] [])).type_ != 0) = true then
 if h1.length + [(((h0.getD (0) (Func.mk ByteArray.empty false [] 0 [])).blocks.getD v4.toNat (Block.mk [])).ins.getD v5.toNat (Ins.mk 0 0 0 0 0 [] [])).type_].length + 1 ≤ 549755813888 ∧ (h1.length + [(((h0.getD (0) (Func.mk ByteArray.empty false [] 0 [])).blocks.getD v4.toNat (Block.mk [])).ins.getD v5.toNat (Ins.mk 0 0 0 0 0 [] [])).type_].length + 1) * 8 ≤ 549755813888 then
 J k30_l2 (s30_l2 f v4 (IntKind.i64.wrap (v5 + 1)) h0 (h1 ++ [(((h0.getD (0) (Func.mk ByteArray.empty false [] 0 [])).blocks.getD v4.toNat (Block.mk [])).ins.getD v5.toNat (Ins.mk 0 0 0 0 0 [] [])).type_]))
 else none
 else
 J k30_l2 (s30_l2 f v4 (IntKind.i64.wrap (v5 + 1)) h0 h1)
 else none
 else none
 else none
 else none
 else
 J k30_j2 (s30_j2 f v4 h0 h1)
 else none
 else none := by kernel_rfl
theorem e30_j0 (J f h0) : run tb C30 U30 J (R30 f) 4096 k30_j0 (s30_j0 f h0) =
 some (.sl true (3) h0, [.dead]) := by kernel_rfl
theorem e30_j2 (J f v4 h0 h1) : run tb C30 U30 J (R30 f) 4096 k30_j2 (s30_j2 f v4 h0 h1) =
 J k30_j1 (s30_j1 f v4 h0 h1) := by kernel_rfl
theorem e30_j1 (J f v4 h0 h1) : run tb C30 U30 J (R30 f) 4096 k30_j1 (s30_j1 f v4 h0 h1) =
 J k30_l0 (s30_l0 f (IntKind.i64.wrap (v4 + 1)) h0 h1) := by kernel_rfl

theorem in30 : Entered 30 := ⟨Try.f30, b30, by kernel_rfl, by kernel_rfl, by kernel_rfl⟩
theorem fn30 (f : Ev.Func) {res : AV Ty} {outs : List (AV Ty)} (h : Ends C30 U30 (R30 f) [.code b30] ⟨slotsA (a30 f) 0 0, heapA (a30 f)⟩ (some (res, outs))) : CallOk tb Try.prog 30 (a30 f) res outs := by
  obtain ⟨n0, hn⟩ := h
  exact fn_ok (C := C30) (U := U30) (n := 0 + n0) (q := (.own 3)) tbOk good (fun f mu S h => by cases h) mixed (fn := Try.f30) (body := b30) (by kernel_rfl) (by kernel_rfl) rfl rfl (by show 1 ≤ 46; omega) (hn 0)
section
variable {f : Ev.Func}
theorem RTypes.in (h : okF f) {i : Nat} (hi : i < f.blocks.length) {k : Nat} (hk : k < (f.blocks.getD i (Block.mk [])).ins.length) :
    Goes C30 U30 (R30 f) k30_l2 (s30_l2 f i k [f] ([0] ++ f.params ++ tyB (f.blocks.take i) ++ tyI ((f.blocks.getD i (Block.mk [])).ins.take k)))
      k30_l2 (s30_l2 f i (k + 1 : Nat) [f] ([0] ++ f.params ++ tyB (f.blocks.take i) ++ tyI ((f.blocks.getD i (Block.mk [])).ins.take (k + 1)))) := .step fun J => by
  have h1 := h.tyl hi hk
  have h3 := (h.blk hi).1
  rw [e30_l2, tyI_step hk]
  simp only [List.getD_cons_zero, Int.toNat_natCast]
  by_cases ht : (((f.blocks.getD i (Block.mk [])).ins.getD k (Ins.mk 0 0 0 0 0 [] [])).type_ != 0) = true
  · rw [if_pos ht, ← List.append_assoc]
    simp (disch := first | omega | assumption | (rw [decide_eq_true_eq]; omega) | (rw [decide_eq_false_iff_not]; omega)) only [↓if_pos, ↓if_neg, if_true, if_false, wrap_up, Int.toNat_natCast, Nat.zero_add, List.length_singleton]
    rfl
  · rw [if_neg ht, if_neg ht, List.append_nil]
    simp (disch := first | omega | assumption | (rw [decide_eq_true_eq]; omega) | (rw [decide_eq_false_iff_not]; omega)) only [↓if_pos, ↓if_neg, if_true, if_false, wrap_up, Int.toNat_natCast, Nat.zero_add]
    rfl
theorem RTypes.out (h : okF f) {i : Nat} (hi : i < f.blocks.length) :
    Goes C30 U30 (R30 f) k30_l0 (s30_l0 f i [f] ([0] ++ f.params ++ tyB (f.blocks.take i))) k30_l0 (s30_l0 f (i + 1 : Nat) [f] ([0] ++ f.params ++ tyB (f.blocks.take (i + 1)))) := by
  have hb := h.2.1
  refine Goes.trans (k' := k30_l2) (s' := s30_l2 f i (0 : Nat) [f] ([0] ++ f.params ++ tyB (f.blocks.take i) ++ tyI ((f.blocks.getD i (Block.mk [])).ins.take 0))) (.step fun J => ?_) ?_
  · rw [e30_l0]
    simp only [List.getD_cons_zero, Int.toNat_natCast]
    simp (disch := first | omega | assumption | (rw [decide_eq_true_eq]; omega) | (rw [decide_eq_false_iff_not]; omega)) only [↓if_pos, ↓if_neg, if_true, if_false, wrap_up, Int.toNat_natCast, Nat.zero_add]
    simp only [List.take_zero]
    rw [show tyI [] = [] from rfl, List.append_nil]
    rfl
  refine Goes.trans (Goes.upto (fun k => s30_l2 f i k [f] ([0] ++ f.params ++ tyB (f.blocks.take i) ++ tyI ((f.blocks.getD i (Block.mk [])).ins.take k))) _ (fun k hk => RTypes.in h hi hk) _ (Nat.le_refl _)) ?_
  refine Goes.trans (k' := k30_j2) (s' := s30_j2 f i [f] ([0] ++ f.params ++ tyB (f.blocks.take (i + 1)))) (.step fun J => ?_) (Goes.trans (.step fun J => e30_j2 ..) (.step fun J => ?_))
  · rw [e30_l2, tyB_step hi, ← List.append_assoc]
    simp only [List.getD_cons_zero, Int.toNat_natCast]
    simp (disch := first | omega | assumption | (rw [decide_eq_true_eq]; omega) | (rw [decide_eq_false_iff_not]; omega)) only [↓if_pos, ↓if_neg, if_true, if_false, wrap_up, Int.toNat_natCast, Nat.zero_add, List.take_length]
  · rw [e30_j1]
    simp (disch := first | omega | assumption | (rw [decide_eq_true_eq]; omega) | (rw [decide_eq_false_iff_not]; omega)) only [↓if_pos, ↓if_neg, if_true, if_false, wrap_up, Int.toNat_natCast, Nat.zero_add]
    rfl
end
theorem rtypes_ok (f : Ev.Func) (h : okF f) : CallOk tb Try.prog 30 (a30 f) (.sl true 3 (typesOf f)) [.dead] := by
  have hb := h.2.1
  have hp := h.1
  refine fn30 f (Goes.ends (k' := k30_l0) (s' := s30_l0 f (0 : Nat) [f] ([0] ++ f.params ++ tyB (f.blocks.take 0))) (.step fun J => ?_) ?_)
  · rw [e30]
    simp (disch := first | omega | assumption | (rw [decide_eq_true_eq]; omega) | (rw [decide_eq_false_iff_not]; omega)) only [↓if_pos, ↓if_neg, if_true, if_false, wrap_up, Int.toNat_natCast, Nat.zero_add, List.length_singleton, List.take_zero]
    rw [show tyB [] = [] from rfl, List.append_nil]
    rfl
  refine Goes.ends (Goes.upto (fun i => s30_l0 f i [f] ([0] ++ f.params ++ tyB (f.blocks.take i))) f.blocks.length (fun i hi => RTypes.out h hi) _ (Nat.le_refl _)) ?_
  refine Goes.ends (k' := k30_j0) (s' := s30_j0 f (typesOf f)) (.step fun J => ?_) (.step fun J => e30_j0 J f _)
  rw [e30_l0]
  simp only [List.getD_cons_zero, Int.toNat_natCast]
  simp (disch := first | omega | assumption | (rw [decide_eq_true_eq]; omega) | (rw [decide_eq_false_iff_not]; omega)) only [↓if_pos, ↓if_neg, if_true, if_false, wrap_up, Int.toNat_natCast, Nat.zero_add, List.take_length]
  rfl
end Go.Proofs.Ytggibjbcbicpjaa.Ev
