/- plnref3.CopyFunc, plnkeep.Small: what they come to. -/
import Derived.Test.YtggibjbcbicpjaaIrM
import Derived.Test.YtggibjbcbicpjaaIrD
namespace Go.Proofs.Ytggibjbcbicpjaa.Ev
open Go
set_option linter.unusedVariables false
set_option linter.unusedSimpArgs false
section
variable {C : Cfg Ty} {U : Cuts} {Rt : St Ty → EvR} {k k' k'' : List Item} {s s' s'' : St Ty} {r rF : EvR}
/-- A loop that ends at the first one that doesn't fit. -/
theorem Ends.all (st : Nat → St Ty) (N : Nat) (P : Nat → Prop) (h : ∀ i, i < N → P i → Goes C U Rt k (st i) k (st (i + 1))) (he : ∀ i, i < N → ¬ P i → Ends C U Rt k (st i) rF)
    (hend : (∀ i, i < N → P i) → Ends C U Rt k (st N) r) (hr : ¬ (∀ i, i < N → P i) → r = rF) : Ends C U Rt k (st 0) r := by
  by_cases hp : ∀ i, i < N → P i
  · exact (Goes.upto st N (fun i hi => h i hi (hp i hi)) N (Nat.le_refl _)).ends (hend hp)
  · rw [hr hp]
    have : ∃ j, j < N ∧ ¬ P j := Classical.byContradiction fun hn => hp fun j hj => Classical.byContradiction fun hc => hn ⟨j, hj, hc⟩
    obtain ⟨j, j1, j2⟩ := this
    exact Ends.at st N P h he _ 0 (Nat.zero_add _) ⟨j, Nat.zero_le _, j1, j2⟩
/-- A loop over something whose shape stays. -/
theorem Goes.shape {α : Type} (st : Nat → α → St Ty) (N : Nat) (P : α → Prop) (h : ∀ i G, i < N → P G → ∃ G', P G' ∧ Goes C U Rt k (st i G) k (st (i + 1) G')) :
    ∀ (m i : Nat) (G : α), i + m = N → P G → ∃ G', P G' ∧ Goes C U Rt k (st i G) k (st N G')
  | 0, i, G, hi, hP => ⟨G, hP, by rw [show i = N by omega]; exact .refl⟩
  | m + 1, i, G, hi, hP => by
    obtain ⟨G1, h1, g1⟩ := h i G (by omega) hP
    obtain ⟨G2, h2, g2⟩ := Goes.shape st N P h m (i + 1) G1 (by omega) h1
    exact ⟨G2, h2, g1.trans g2⟩
end
theorem all_getD {α : Type} {l : List α} {d : α} {P : α → Prop} : (∀ i, i < l.length → P (l.getD i d)) ↔ ∀ x, x ∈ l → P x := by
  constructor
  · intro h x hx
    obtain ⟨j, hj, e⟩ := List.getElem_of_mem hx
    have := h j hj
    rw [List.getD_eq_getElem?_getD, List.getElem?_eq_getElem hj] at this
    exact e ▸ this
  · intro h i hi
    exact h _ (getD_mem hi)
noncomputable def b32 : Code := bodyOf Try.f32
noncomputable def C32 : Cfg Ty := ⟨fun
  | 79 => some ([], S79)
  | _ => none, fun
  | 2 => true
  | 3 => true
  | 5 => true
  | 13 => true
  | 48 => true
  | 49 => true
  | 54 => true
  | 55 => true
  | 400053 => true
  | 400057 => true
  | _ => false, 58, 0⟩
def U32 : Cuts := ⟨fun
  | 0 => some [(2, none), (3, none)]
  | 1 => some [(1, none), (2, none), (3, none), (4, none)]
  | 2 => some [(1, none), (2, none), (3, none), (4, none), (5, none)]
  | _ => none, fun
  | 0 => some [(1, none), (2, none), (3, none), (4, none)]
  | 2 => some [(1, none), (2, none), (3, none), (4, none), (5, none), (6, none)]
  | _ => none, fun
  | 1 => some [0, 1, 2, 3, 4, 5, 7, 8, 1000, 6, 9, 10, 1000, 11]
  | 9 => some [0, 1, 2, 3, 4, 5, 6, 7, 8, 9, 10, 11, 12, 13, 14, 15]
  | _ => none⟩
noncomputable def k32_j0 : List Item := [.code (sndC (sndC (sndC b32)))]
noncomputable def k32_l0 : List Item := [.code (inC (inC (sndC (fstC (sndC (sndC b32)))))), .inLoop (inC (inC (sndC (fstC (sndC (sndC b32)))))), .inBlock 0, .code (sndC (sndC (sndC b32)))]
noncomputable def k32_j1 : List Item := [.code (sndC (sndC (inC (inC (sndC (fstC (sndC (sndC b32)))))))), .inLoop (inC (inC (sndC (fstC (sndC (sndC b32)))))), .inBlock 0, .code (sndC (sndC (sndC b32)))]
noncomputable def k32_j2 : List Item := [.code (sndC (sndC (inC (fstC (sndC (inC (inC (sndC (fstC (sndC (sndC b32))))))))))), .inBlock 1, .code (sndC (sndC (inC (inC (sndC (fstC (sndC (sndC b32)))))))), .inLoop (inC (inC (sndC (fstC (sndC (sndC b32)))))), .inBlock 0, .code (sndC (sndC (sndC b32)))]
noncomputable def k32_l2 : List Item := [.code (inC (inC (sndC (fstC (sndC (inC (fstC (sndC (inC (inC (sndC (fstC (sndC (sndC b32)))))))))))))), .inLoop (inC (inC (sndC (fstC (sndC (inC (fstC (sndC (inC (inC (sndC (fstC (sndC (sndC b32)))))))))))))), .inBlock 2, .code (sndC (sndC (inC (fstC (sndC (inC (inC (sndC (fstC (sndC (sndC b32))))))))))), .inBlock 1, .code (sndC (sndC (inC (inC (sndC (fstC (sndC (sndC b32)))))))), .inLoop (inC (inC (sndC (fstC (sndC (sndC b32)))))), .inBlock 0, .code (sndC (sndC (sndC b32)))]
def a32 (f : Func) : List (AV Ty) := [.agg [.v (.string f.name), .v (.bool f.out), .sl false (3 : Nat) f.params, .v (.int .i64 f.result), .sl false (44 : Nat) f.blocks]]
noncomputable def R32 (f : Func) : St Ty → EvR := resT tb C32 Try.f32.results.toList .keep (a32 f)
def s32_l0 (f : Func) (v4 : Int) (h0 : List Func) (h1 : ByteArray) (h1_1 : Bool) (h1_2 : List Int) (h1_3 : Int) (h1_4 : List Block) (h2 : ByteArray) (h2_1 : Bool) (h2_2 : List Int) (h2_3 : Int) (h2_4 : List Block) : St Ty := St.mk [(1, .ptr (0) [] (0) (0)), (2, .ptr (1) [] (0) (0)), (3, .ptr (2) [] (0) (0)), (4, .v (.int .i64 v4))] [some (Root.mk (33) false h0), some (Root.mk (33) true [Func.mk h1 h1_1 h1_2 h1_3 h1_4]), some (Root.mk (33) true [Func.mk h2 h2_1 h2_2 h2_3 h2_4])]
def s32_l2 (f : Func) (v4 : Int) (v6 : Int) (h0 : List Func) (h1 : ByteArray) (h1_1 : Bool) (h1_2 : List Int) (h1_3 : Int) (h1_4 : List Block) (h2 : ByteArray) (h2_1 : Bool) (h2_2 : List Int) (h2_3 : Int) (h2_4 : List Block) (h3 : List Ins) : St Ty := St.mk [(1, .ptr (0) [] (0) (0)), (2, .ptr (1) [] (0) (0)), (3, .ptr (2) [] (0) (0)), (4, .v (.int .i64 v4)), (5, .ptr (3) [] (0) (0)), (6, .v (.int .i64 v6))] [some (Root.mk (33) false h0), some (Root.mk (33) true [Func.mk h1 h1_1 h1_2 h1_3 h1_4]), some (Root.mk (33) true [Func.mk h2 h2_1 h2_2 h2_3 h2_4]), some (Root.mk (44) true [Block.mk h3])]
def s32_j0 (f : Func) (h0 : ByteArray) (h0_1 : Bool) (h0_2 : List Int) (h0_3 : Int) (h0_4 : List Block) (h1 : ByteArray) (h1_1 : Bool) (h1_2 : List Int) (h1_3 : Int) (h1_4 : List Block) : St Ty := St.mk [(2, .ptr (0) [] (0) (0)), (3, .ptr (1) [] (0) (0))] [some (Root.mk (33) true [Func.mk h0 h0_1 h0_2 h0_3 h0_4]), some (Root.mk (33) true [Func.mk h1 h1_1 h1_2 h1_3 h1_4])]
def s32_j2 (f : Func) (v4 : Int) (h0 : List Func) (h1 : ByteArray) (h1_1 : Bool) (h1_2 : List Int) (h1_3 : Int) (h1_4 : List Block) (h2 : ByteArray) (h2_1 : Bool) (h2_2 : List Int) (h2_3 : Int) (h2_4 : List Block) (h3 : List Ins) : St Ty := St.mk [(1, .ptr (0) [] (0) (0)), (2, .ptr (1) [] (0) (0)), (3, .ptr (2) [] (0) (0)), (4, .v (.int .i64 v4)), (5, .ptr (3) [] (0) (0))] [some (Root.mk (33) false h0), some (Root.mk (33) true [Func.mk h1 h1_1 h1_2 h1_3 h1_4]), some (Root.mk (33) true [Func.mk h2 h2_1 h2_2 h2_3 h2_4]), some (Root.mk (44) true [Block.mk h3])]
def s32_j1 (f : Func) (v4 : Int) (h0 : List Func) (h1 : ByteArray) (h1_1 : Bool) (h1_2 : List Int) (h1_3 : Int) (h1_4 : List Block) (h2 : ByteArray) (h2_1 : Bool) (h2_2 : List Int) (h2_3 : Int) (h2_4 : List Block) : St Ty := St.mk [(1, .ptr (0) [] (0) (0)), (2, .ptr (1) [] (0) (0)), (3, .ptr (2) [] (0) (0)), (4, .v (.int .i64 v4))] [some (Root.mk (33) false h0), some (Root.mk (33) true [Func.mk h1 h1_1 h1_2 h1_3 h1_4]), some (Root.mk (33) true [Func.mk h2 h2_1 h2_2 h2_3 h2_4])]
theorem e32 (J f) : run tb C32 U32 J (R32 f) 4096 [.code b32] ⟨slotsA (a32 f) 0 0, heapA (a32 f)⟩ =
 meet (
 if f.params.length + 1 ≤ 549755813888 ∧ (f.params.length + 1) * 8 ≤ 549755813888 then
 meet (
 J k32_l0 (s32_l0 f 0 ([Func.mk f.name f.out f.params f.result f.blocks]) ByteArray.empty false ([]) 0 ([]) f.name f.out f.params f.result ([]))
 ) (
 J k32_l0 (s32_l0 f 0 ([Func.mk f.name f.out f.params f.result f.blocks]) ByteArray.empty false ([]) 0 ([]) f.name f.out f.params f.result ([]))
 )
 else none
 ) (
 if f.params.length + 1 ≤ 549755813888 ∧ (f.params.length + 1) * 8 ≤ 549755813888 then
 J k32_l0 (s32_l0 f 0 ([Func.mk f.name f.out f.params f.result f.blocks]) ByteArray.empty false ([]) 0 ([]) f.name f.out f.params f.result ([]))
 else none
 ) := by kernel_rfl
theorem e32_l0 (J f v4 h0 h1 h1_1 h1_2 h1_3 h1_4 h2 h2_1 h2_2 h2_3 h2_4) : run tb C32 U32 J (R32 f) 4096 k32_l0 (s32_l0 f v4 h0 h1 h1_1 h1_2 h1_3 h1_4 h2 h2_1 h2_2 h2_3 h2_4) =
 if decide (v4 < (↑(h0.getD (0) (Func.mk ByteArray.empty false [] 0 [])).blocks.length : Int)) = true then
 J k32_l2 (s32_l2 f v4 0 h0 h1 h1_1 h1_2 h1_3 h1_4 h2 h2_1 h2_2 h2_3 h2_4 ([]))
 else
 J k32_j0 (s32_j0 f h1 h1_1 h1_2 h1_3 h1_4 h2 h2_1 h2_2 h2_3 h2_4) := by kernel_rfl
theorem e32_l2 (J f v4 v6 h0 h1 h1_1 h1_2 h1_3 h1_4 h2 h2_1 h2_2 h2_3 h2_4 h3) : run tb C32 U32 J (R32 f) 4096 k32_l2 (s32_l2 f v4 v6 h0 h1 h1_1 h1_2 h1_3 h1_4 h2 h2_1 h2_2 h2_3 h2_4 h3) =
 if 0 ≤ v4 then
 if v4 < (↑(h0.getD (0) (Func.mk ByteArray.empty false [] 0 [])).blocks.length : Int) then
 if decide (v6 < (↑((h0.getD (0) (Func.mk ByteArray.empty false [] 0 [])).blocks.getD v4.toNat (Block.mk [])).ins.length : Int)) = true then
 if 0 ≤ v4 then
 if v4 < (↑(h0.getD (0) (Func.mk ByteArray.empty false [] 0 [])).blocks.length : Int) then
 if 0 ≤ v6 then
 if v6 < (↑((h0.getD (0) (Func.mk ByteArray.empty false [] 0 [])).blocks.getD v4.toNat (Block.mk [])).ins.length : Int) then
 if (((h0.getD (0) (Func.mk ByteArray.empty false [] 0 [])).blocks.getD v4.toNat (Block.mk [])).ins.getD v6.toNat (Ins.mk 0 0 0 0 0 [] [])).args.length ≤ 1000 ∧ (((h0.getD (0) (Func.mk ByteArray.empty false [] 0 [])).blocks.getD v4.toNat (Block.mk [])).ins.getD v6.toNat (Ins.mk 0 0 0 0 0 [] [])).into.length ≤ 1000 then
 if h3.length + [Ins.mk (((h0.getD (0) (Func.mk ByteArray.empty false [] 0 [])).blocks.getD v4.toNat (Block.mk [])).ins.getD v6.toNat (Ins.mk 0 0 0 0 0 [] [])).op (((h0.getD (0) (Func.mk ByteArray.empty false [] 0 [])).blocks.getD v4.toNat (Block.mk [])).ins.getD v6.toNat (Ins.mk 0 0 0 0 0 [] [])).type_ (((h0.getD (0) (Func.mk ByteArray.empty false [] 0 [])).blocks.getD v4.toNat (Block.mk [])).ins.getD v6.toNat (Ins.mk 0 0 0 0 0 [] [])).to_ (((h0.getD (0) (Func.mk ByteArray.empty false [] 0 [])).blocks.getD v4.toNat (Block.mk [])).ins.getD v6.toNat (Ins.mk 0 0 0 0 0 [] [])).sym_ (((h0.getD (0) (Func.mk ByteArray.empty false [] 0 [])).blocks.getD v4.toNat (Block.mk [])).ins.getD v6.toNat (Ins.mk 0 0 0 0 0 [] [])).num (((h0.getD (0) (Func.mk ByteArray.empty false [] 0 [])).blocks.getD v4.toNat (Block.mk [])).ins.getD v6.toNat (Ins.mk 0 0 0 0 0 [] [])).args (((h0.getD (0) (Func.mk ByteArray.empty false [] 0 [])).blocks.getD v4.toNat (Block.mk [])).ins.getD v6.toNat (Ins.mk 0 0 0 0 0 [] [])).into].length + 1 ≤ 549755813888 ∧ (h3.length + [Ins.mk (((h0.getD (0) (Func.mk ByteArray.empty false [] 0 [])).blocks.getD v4.toNat (Block.mk [])).ins.getD v6.toNat (Ins.mk 0 0 0 0 0 [] [])).op (((h0.getD (0) (Func.mk ByteArray.empty false [] 0 [])).blocks.getD v4.toNat (Block.mk [])).ins.getD v6.toNat (Ins.mk 0 0 0 0 0 [] [])).type_ (((h0.getD (0) (Func.mk ByteArray.empty false [] 0 [])).blocks.getD v4.toNat (Block.mk [])).ins.getD v6.toNat (Ins.mk 0 0 0 0 0 [] [])).to_ (((h0.getD (0) (Func.mk ByteArray.empty false [] 0 [])).blocks.getD v4.toNat (Block.mk [])).ins.getD v6.toNat (Ins.mk 0 0 0 0 0 [] [])).sym_ (((h0.getD (0) (Func.mk ByteArray.empty false [] 0 [])).blocks.getD v4.toNat (Block.mk [])).ins.getD v6.toNat (Ins.mk 0 0 0 0 0 [] [])).num (((h0.getD (0) (Func.mk ByteArray.empty false [] 0 [])).blocks.getD v4.toNat (Block.mk [])).ins.getD v6.toNat (Ins.mk 0 0 0 0 0 [] [])).args (((h0.getD (0) (Func.mk ByteArray.empty false [] 0 [])).blocks.getD v4.toNat (Block.mk [])).ins.getD v6.toNat (Ins.mk 0 0 0 0 0 [] [])).into].length + 1) * 88 ≤ 549755813888 then
 J k32_l2 (s32_l2 f v4 (IntKind.i64.wrap (v6 + 1)) h0 h1 h1_1 h1_2 h1_3 h1_4 h2 h2_1 h2_2 h2_3 h2_4 (h3 ++ [Ins.mk (((h0.getD (0) (Func.mk ByteArray.empty false [] 0 [])).blocks.getD v4.toNat (Block.mk [])).ins.getD v6.toNat (Ins.mk 0 0 0 0 0 [] [])).op (((h0.getD (0) (Func.mk ByteArray.empty false [] 0 [])).blocks.getD v4.toNat (Block.mk [])).ins.getD v6.toNat (Ins.mk 0 0 0 0 0 [] [])).type_ (((h0.getD (0) (Func.mk ByteArray.empty false [] 0 [])).blocks.getD v4.toNat (Block.mk [])).ins.getD v6.toNat (Ins.mk 0 0 0 0 0 [] [])).to_ (((h0.getD (0) (Func.mk ByteArray.empty false [] 0 [])).blocks.getD v4.toNat (Block.mk [])).ins.getD v6.toNat (Ins.mk 0 0 0 0 0 [] [])).sym_ (((h0.getD (0) (Func.mk ByteArray.empty false [] 0 [])).blocks.getD v4.toNat (Block.mk [])).ins.getD v6.toNat (Ins.mk 0 0 0 0 0 [] [])).num (((h0.getD (0) (Func.mk ByteArray.empty false [] 0 [])).blocks.getD v4.toNat (Block.mk [])).ins.getD v6.toNat (Ins.mk 0 0 0 0 0 [] [])).args (((h0.getD (0) (Func.mk ByteArray.empty false [] 0 [])).blocks.getD v4.toNat (Block.mk [])).ins.getD v6.toNat (Ins.mk 0 0 0 0 0 [] [])).into]))
 else none
 else none
 else none
 else none
 else none
 else none
 else
 J k32_j2 (s32_j2 f v4 h0 h1 h1_1 h1_2 h1_3 h1_4 h2 h2_1 h2_2 h2_3 h2_4 h3)
 else none
 else none := by kernel_rfl
theorem e32_j0 (J f h0 h0_1 h0_2 h0_3 h0_4 h1 h1_1 h1_2 h1_3 h1_4) : run tb C32 U32 J (R32 f) 4096 k32_j0 (s32_j0 f h0 h0_1 h0_2 h0_3 h0_4 h1 h1_1 h1_2 h1_3 h1_4) =
 some (.agg [.v (.string h1), .v (.bool h1_1), .sl true 3 h1_2, .v (.int .i64 h1_3), .sl true 44 h1_4], [.dead]) := by kernel_rfl
theorem e32_j2 (J f v4 h0 h1 h1_1 h1_2 h1_3 h1_4 h2 h2_1 h2_2 h2_3 h2_4 h3) : run tb C32 U32 J (R32 f) 4096 k32_j2 (s32_j2 f v4 h0 h1 h1_1 h1_2 h1_3 h1_4 h2 h2_1 h2_2 h2_3 h2_4 h3) =
 if h2_4.length + [Block.mk h3].length + 1 ≤ 549755813888 ∧ (h2_4.length + [Block.mk h3].length + 1) * 24 ≤ 549755813888 then
 J k32_j1 (s32_j1 f v4 h0 h1 h1_1 h1_2 h1_3 h1_4 h2 h2_1 h2_2 h2_3 (h2_4 ++ [Block.mk h3]))
 else none := by kernel_rfl
theorem e32_j1 (J f v4 h0 h1 h1_1 h1_2 h1_3 h1_4 h2 h2_1 h2_2 h2_3 h2_4) : run tb C32 U32 J (R32 f) 4096 k32_j1 (s32_j1 f v4 h0 h1 h1_1 h1_2 h1_3 h1_4 h2 h2_1 h2_2 h2_3 h2_4) =
 J k32_l0 (s32_l0 f (IntKind.i64.wrap (v4 + 1)) h0 h1 h1_1 h1_2 h1_3 h1_4 h2 h2_1 h2_2 h2_3 h2_4) := by kernel_rfl

theorem in32 : Entered 32 := ⟨Try.f32, b32, by kernel_rfl, by kernel_rfl, by kernel_rfl⟩
theorem fn32 (f : Ev.Func) {res : AV Ty} {outs : List (AV Ty)} (h : Ends C32 U32 (R32 f) [.code b32] ⟨slotsA (a32 f) 0 0, heapA (a32 f)⟩ (some (res, outs))) : CallOk tb Try.prog 32 (a32 f) res outs := by
  obtain ⟨n0, hn⟩ := h
  exact fn_ok (C := C32) (U := U32) (n := 0 + n0) (q := .keep) tbOk good (fun f mu S h => by
    unfold C32 at h
    simp only at h
    split at h
    · cases h; exact ⟨in79, S79_ok⟩
    · cases h) mixed (fn := Try.f32) (body := b32) (by kernel_rfl) (by kernel_rfl) rfl rfl (by show 1 ≤ 58; omega) (hn 0)
section
variable {f : Ev.Func}
abbrev cpT (f : Ev.Func) (i : Nat) : St Ty := s32_l0 f i [f] ByteArray.empty false [] 0 [] f.name f.out f.params f.result (f.blocks.take i)
abbrev cpU (f : Ev.Func) (i k : Nat) : St Ty := s32_l2 f i k [f] ByteArray.empty false [] 0 [] f.name f.out f.params f.result (f.blocks.take i) ((f.blocks.getD i (Block.mk [])).ins.take k)
theorem CopyR.in (h : okF f) {i : Nat} (hi : i < f.blocks.length) {k : Nat} (hk : k < (f.blocks.getD i (Block.mk [])).ins.length) : Goes C32 U32 (R32 f) k32_l2 (cpU f i k) k32_l2 (cpU f i (k + 1)) := .step fun J => by
  have h3 := (h.blk hi).1
  have h4 : okIns ((f.blocks.getD i (Block.mk [])).ins.getD k (Ins.mk 0 0 0 0 0 [] [])) := (h.blk hi).2 _ (getD_mem hk)
  have h5 : ((f.blocks.getD i (Block.mk [])).ins.take k).length ≤ 1000 := by rw [List.length_take]; omega
  unfold okIns at h4
  unfold cpU
  rw [e32_l2, take_step (d := (Ins.mk 0 0 0 0 0 [] [])) hk]
  simp only [Int.toNat_natCast, List.getD_cons_zero]
  simp (disch := first | omega | assumption | (rw [decide_eq_true_eq]; omega) | (rw [decide_eq_false_iff_not]; omega)) only [↓if_pos, ↓if_neg, if_true, if_false, wrap_up, Int.toNat_natCast, Nat.zero_add, List.length_singleton]
  rfl
theorem CopyR.out (h : okF f) {i : Nat} (hi : i < f.blocks.length) : Goes C32 U32 (R32 f) k32_l0 (cpT f i) k32_l0 (cpT f (i + 1)) := by
  have hb := h.2.1
  refine Goes.trans (k' := k32_l2) (s' := cpU f i 0) (.step fun J => ?_) ?_
  · rw [cpT, e32_l0]
    simp only [List.getD_cons_zero]
    simp (disch := first | omega | assumption | (rw [decide_eq_true_eq]; omega) | (rw [decide_eq_false_iff_not]; omega)) only [↓if_pos, ↓if_neg, if_true, if_false, wrap_up, Int.toNat_natCast, Nat.zero_add]
    rfl
  refine Goes.trans (Goes.upto (cpU f i) _ (fun k hk => CopyR.in h hi hk) _ (Nat.le_refl _)) ?_
  refine Goes.trans (k' := k32_j2) (s' := s32_j2 f i [f] ByteArray.empty false [] 0 [] f.name f.out f.params f.result (f.blocks.take i) (f.blocks.getD i (Block.mk [])).ins) (.step fun J => ?_) (Goes.trans (k' := k32_j1) (s' := s32_j1 f i [f] ByteArray.empty false [] 0 [] f.name f.out f.params f.result (f.blocks.take (i + 1))) (.step fun J => ?_) (.step fun J => ?_))
  · rw [cpU, e32_l2]
    simp only [Int.toNat_natCast, List.getD_cons_zero]
    simp (disch := first | omega | assumption | (rw [decide_eq_true_eq]; omega) | (rw [decide_eq_false_iff_not]; omega)) only [↓if_pos, ↓if_neg, if_true, if_false, wrap_up, Int.toNat_natCast, Nat.zero_add, List.take_length]
  · have h5 : (f.blocks.take i).length ≤ 1000 := by rw [List.length_take]; omega
    rw [e32_j2, take_step (d := (Block.mk [])) hi]
    simp (disch := first | omega | assumption | (rw [decide_eq_true_eq]; omega) | (rw [decide_eq_false_iff_not]; omega)) only [↓if_pos, ↓if_neg, if_true, if_false, wrap_up, Int.toNat_natCast, Nat.zero_add, List.length_singleton]
  · rw [e32_j1]
    simp (disch := first | omega | assumption | (rw [decide_eq_true_eq]; omega) | (rw [decide_eq_false_iff_not]; omega)) only [↓if_pos, ↓if_neg, if_true, if_false, wrap_up, Int.toNat_natCast, Nat.zero_add]
    rfl
end
theorem copyFunc2_ok (f : Ev.Func) (h : okF f) : CallOk tb Try.prog 32 (a32 f) (.agg [.v (.string f.name), .v (.bool f.out), .sl true 3 f.params, .v (.int .i64 f.result), .sl true 44 f.blocks]) [.dead] := by
  have hb := h.2.1
  have hp := h.1
  refine fn32 f (Goes.ends (k' := k32_l0) (s' := cpT f 0) (.step fun J => ?_) ?_)
  · rw [e32]
    simp (disch := first | omega | assumption | (rw [decide_eq_true_eq]; omega) | (rw [decide_eq_false_iff_not]; omega)) only [↓if_pos, ↓if_neg, if_true, if_false, wrap_up, Int.toNat_natCast, Nat.zero_add, meet_self]
    rfl
  refine Goes.ends (Goes.upto (cpT f) f.blocks.length (fun i hi => CopyR.out h hi) _ (Nat.le_refl _)) ?_
  refine Goes.ends (k' := k32_j0) (s' := s32_j0 f ByteArray.empty false [] 0 [] f.name f.out f.params f.result f.blocks) (.step fun J => ?_) (.step fun J => e32_j0 ..)
  rw [cpT, e32_l0]
  simp only [List.getD_cons_zero]
  simp (disch := first | omega | assumption | (rw [decide_eq_true_eq]; omega) | (rw [decide_eq_false_iff_not]; omega)) only [↓if_pos, ↓if_neg, if_true, if_false, wrap_up, Int.toNat_natCast, Nat.zero_add, List.take_length]
def S32 : List (AV Ty) → T (AV Ty × List (AV Ty))
  | [.agg x] => match cod33.dec false x with
    | some f => .ite (okF f) (okF.dec f) (.ret (.agg [.v (.string f.name), .v (.bool f.out), .sl true 3 f.params, .v (.int .i64 f.result), .sl true 44 f.blocks], [.dead])) .fail
    | none => .fail
  | _ => .fail
theorem S32_ok (l : List (AV Ty)) (r : AV Ty) (outs : List (AV Ty)) (h : (S32 l).val = some (r, outs)) : CallOk tb Try.prog 32 l r outs := by
  unfold S32 at h
  split at h
  · rename_i x
    split at h
    · rename_i f e1
      rcases ite_val h with ⟨e, h⟩ | ⟨_, h⟩
      · cases h
        have h1 := cod33_ok.dec false x f e1
        subst h1
        exact copyFunc2_ok f e
      · cases h
    · cases h
  · cases h
def fineX (x : Ev.Extern) : Prop := x.name.size ≤ 40 ∧ x.params.length ≤ 10
def fineG (x : Ev.Global) : Prop := x.name.size ≤ 40 ∧ x.cells.length ≤ 20
def fineT (x : Ev.Table) : Prop := x.name.size ≤ 40 ∧ x.funcs.length ≤ 16
def szF (l : List Ev.Func) : Nat := (l.map fun f => szT f.blocks).sum
/-- A module that is light enough. -/
def smallM (m : Ev.Module) : Prop := (m.externs.length ≤ 14 ∧ m.globals.length ≤ 14 ∧ m.tables.length ≤ 8 ∧ m.funcs.length ≤ 26) ∧ (∀ x, x ∈ m.externs → fineX x) ∧ (∀ x, x ∈ m.globals → fineG x) ∧ (∀ x, x ∈ m.tables → fineT x) ∧ (∀ f, f ∈ m.funcs → lightF f) ∧ szF m.funcs ≤ 160
def wideM (m : Ev.Module) : Prop := ∀ f, f ∈ m.funcs → wideF f
instance fineX.dec (x : Ev.Extern) : Decidable (fineX x) := by unfold fineX; infer_instance
instance fineG.dec (x : Ev.Global) : Decidable (fineG x) := by unfold fineG; infer_instance
instance fineT.dec (x : Ev.Table) : Decidable (fineT x) := by unfold fineT; infer_instance
instance smallM.dec (m : Ev.Module) : Decidable (smallM m) := by unfold smallM; infer_instance
instance wideM.dec (m : Ev.Module) : Decidable (wideM m) := by unfold wideM; infer_instance
theorem szF_step {l : List Ev.Func} {i : Nat} (h : i < l.length) : szF (l.take (i + 1)) = szF (l.take i) + szT (l.getD i (Func.mk ByteArray.empty false [] 0 [])).blocks := by
  rw [take_step (d := (Func.mk ByteArray.empty false [] 0 [])) h]
  simp [szF]
theorem szF_le {l : List Ev.Func} (hl : l.length ≤ 1000) (h : ∀ f, f ∈ l → lightF f) : szF l ≤ 90000 := by
  have : ∀ l : List Ev.Func, (∀ f, f ∈ l → lightF f) → szF l ≤ l.length * 90 := fun l => by
    induction l with
    | nil => intro _; simp [szF]
    | cons f l ih =>
      intro h
      have h1 := ih fun x hx => h x (List.mem_cons_of_mem _ hx)
      have h2 := (h f List.mem_cons_self).2.2.2.1
      simp only [szF, List.map_cons, List.sum_cons, List.length_cons, Nat.succ_mul] at h1 ⊢
      omega
  have h1 := this l h
  omega
noncomputable def b33 : Code := bodyOf Try.f33
noncomputable def C33 : Cfg Ty := ⟨fun
  | 25 => some ([], S25)
  | 28 => some ([], S28)
  | _ => none, fun _ => false, 129, 0⟩
def U33 : Cuts := ⟨fun
  | 0 => some [(1, none)]
  | 2 => some [(1, none)]
  | 4 => some [(1, none)]
  | 6 => some [(6, none)]
  | _ => none, fun
  | 0 => some [(1, none), (3, none)]
  | 2 => some [(1, none), (4, none)]
  | 4 => some [(1, none), (5, none)]
  | 6 => some [(1, none), (6, none), (7, none)]
  | _ => none, fun _ => none⟩
noncomputable def k33_j0 : List Item := [.code (sndC (sndC (sndC b33)))]
noncomputable def k33_l0 : List Item := [.code (inC (inC (sndC (fstC (sndC (sndC b33)))))), .inLoop (inC (inC (sndC (fstC (sndC (sndC b33)))))), .inBlock 0, .code (sndC (sndC (sndC b33)))]
noncomputable def k33_j2 : List Item := [.code (sndC (sndC (sndC (sndC b33))))]
noncomputable def k33_l2 : List Item := [.code (inC (inC (sndC (fstC (sndC (sndC (sndC b33))))))), .inLoop (inC (inC (sndC (fstC (sndC (sndC (sndC b33))))))), .inBlock 2, .code (sndC (sndC (sndC (sndC b33))))]
noncomputable def k33_j4 : List Item := [.code (sndC (sndC (sndC (sndC (sndC b33)))))]
noncomputable def k33_l4 : List Item := [.code (inC (inC (sndC (fstC (sndC (sndC (sndC (sndC b33)))))))), .inLoop (inC (inC (sndC (fstC (sndC (sndC (sndC (sndC b33)))))))), .inBlock 4, .code (sndC (sndC (sndC (sndC (sndC b33)))))]
noncomputable def k33_j6 : List Item := [.code (sndC (sndC (sndC (sndC (sndC (sndC (sndC b33)))))))]
noncomputable def k33_l6 : List Item := [.code (inC (inC (sndC (fstC (sndC (sndC (sndC (sndC (sndC (sndC b33)))))))))), .inLoop (inC (inC (sndC (fstC (sndC (sndC (sndC (sndC (sndC (sndC b33)))))))))), .inBlock 6, .code (sndC (sndC (sndC (sndC (sndC (sndC (sndC b33)))))))]
def a33 (m : Module) : List (AV Ty) := [.agg [.sl false (91 : Nat) m.externs, .sl false (94 : Nat) m.globals, .sl false (96 : Nat) m.tables, .sl false (33 : Nat) m.funcs]]
noncomputable def R33 (m : Module) : St Ty → EvR := resT tb C33 Try.f33.results.toList .keep (a33 m)
def s33_l0 (m : Module) (v3 : Int) (h0 : List Module) : St Ty := St.mk [(1, .ptr (0) [] (0) (0)), (3, .v (.int .i64 v3))] [some (Root.mk (27) false h0)]
def s33_j0 (m : Module) (h0 : List Module) : St Ty := St.mk [(1, .ptr (0) [] (0) (0))] [some (Root.mk (27) false h0)]
def s33_l2 (m : Module) (v4 : Int) (h0 : List Module) : St Ty := St.mk [(1, .ptr (0) [] (0) (0)), (4, .v (.int .i64 v4))] [some (Root.mk (27) false h0)]
def s33_j2 (m : Module) (h0 : List Module) : St Ty := St.mk [(1, .ptr (0) [] (0) (0))] [some (Root.mk (27) false h0)]
def s33_l4 (m : Module) (v5 : Int) (h0 : List Module) : St Ty := St.mk [(1, .ptr (0) [] (0) (0)), (5, .v (.int .i64 v5))] [some (Root.mk (27) false h0)]
def s33_j4 (m : Module) (h0 : List Module) : St Ty := St.mk [(1, .ptr (0) [] (0) (0))] [some (Root.mk (27) false h0)]
def s33_l6 (m : Module) (v6 : Int) (v7 : Int) (h0 : List Module) : St Ty := St.mk [(1, .ptr (0) [] (0) (0)), (6, .v (.int .i64 v6)), (7, .v (.int .i64 v7))] [some (Root.mk (27) false h0)]
def s33_j6 (m : Module) (v6 : Int) : St Ty := St.mk [(6, .v (.int .i64 v6))] []
theorem e33 (J m) : run tb C33 U33 J (R33 m) 4096 [.code b33] ⟨slotsA (a33 m) 0 0, heapA (a33 m)⟩ =
 if decide ((↑m.externs.length : Int) > 14) = false then
 if decide ((↑m.globals.length : Int) > 14) = false then
 if decide ((↑m.tables.length : Int) > 8) = false then
 if decide ((↑m.funcs.length : Int) > 26) = true then
 some (.v (.bool false), [.dead])
 else
 J k33_l0 (s33_l0 m 0 ([Module.mk m.externs m.globals m.tables m.funcs]))
 else
 some (.v (.bool false), [.dead])
 else
 some (.v (.bool false), [.dead])
 else
 some (.v (.bool false), [.dead]) := by kernel_rfl
theorem e33_l0 (J m v3 h0) : run tb C33 U33 J (R33 m) 4096 k33_l0 (s33_l0 m v3 h0) =
 if decide (v3 < (↑(h0.getD (0) (Module.mk [] [] [] [])).externs.length : Int)) = true then
 if 0 ≤ v3 then
 if v3 < (↑(h0.getD (0) (Module.mk [] [] [] [])).externs.length : Int) then
 if decide ((↑((h0.getD (0) (Module.mk [] [] [] [])).externs.getD v3.toNat (Extern.mk ByteArray.empty [] 0)).name.size : Int) > 40) = false then
 if 0 ≤ v3 then
 if v3 < (↑(h0.getD (0) (Module.mk [] [] [] [])).externs.length : Int) then
 if decide ((↑((h0.getD (0) (Module.mk [] [] [] [])).externs.getD v3.toNat (Extern.mk ByteArray.empty [] 0)).params.length : Int) > 10) = true then
 some (.v (.bool false), [.dead])
 else
 J k33_l0 (s33_l0 m (IntKind.i64.wrap (v3 + 1)) h0)
 else none
 else none
 else
 some (.v (.bool false), [.dead])
 else none
 else none
 else
 J k33_j0 (s33_j0 m h0) := by kernel_rfl
theorem e33_j0 (J m h0) : run tb C33 U33 J (R33 m) 4096 k33_j0 (s33_j0 m h0) =
 J k33_l2 (s33_l2 m 0 h0) := by kernel_rfl
theorem e33_l2 (J m v4 h0) : run tb C33 U33 J (R33 m) 4096 k33_l2 (s33_l2 m v4 h0) =
 if decide (v4 < (↑(h0.getD (0) (Module.mk [] [] [] [])).globals.length : Int)) = true then
 if 0 ≤ v4 then
 if v4 < (↑(h0.getD (0) (Module.mk [] [] [] [])).globals.length : Int) then
 if decide ((↑((h0.getD (0) (Module.mk [] [] [] [])).globals.getD v4.toNat (Global.mk ByteArray.empty [])).name.size : Int) > 40) = false then
 if 0 ≤ v4 then
 if v4 < (↑(h0.getD (0) (Module.mk [] [] [] [])).globals.length : Int) then
 if decide ((↑((h0.getD (0) (Module.mk [] [] [] [])).globals.getD v4.toNat (Global.mk ByteArray.empty [])).cells.length : Int) > 20) = true then
 some (.v (.bool false), [.dead])
 else
 J k33_l2 (s33_l2 m (IntKind.i64.wrap (v4 + 1)) h0)
 else none
 else none
 else
 some (.v (.bool false), [.dead])
 else none
 else none
 else
 J k33_j2 (s33_j2 m h0) := by kernel_rfl
theorem e33_j2 (J m h0) : run tb C33 U33 J (R33 m) 4096 k33_j2 (s33_j2 m h0) =
 J k33_l4 (s33_l4 m 0 h0) := by kernel_rfl
theorem e33_l4 (J m v5 h0) : run tb C33 U33 J (R33 m) 4096 k33_l4 (s33_l4 m v5 h0) =
 if decide (v5 < (↑(h0.getD (0) (Module.mk [] [] [] [])).tables.length : Int)) = true then
 if 0 ≤ v5 then
 if v5 < (↑(h0.getD (0) (Module.mk [] [] [] [])).tables.length : Int) then
 if decide ((↑((h0.getD (0) (Module.mk [] [] [] [])).tables.getD v5.toNat (Table.mk ByteArray.empty [])).name.size : Int) > 40) = false then
 if 0 ≤ v5 then
 if v5 < (↑(h0.getD (0) (Module.mk [] [] [] [])).tables.length : Int) then
 if decide ((↑((h0.getD (0) (Module.mk [] [] [] [])).tables.getD v5.toNat (Table.mk ByteArray.empty [])).funcs.length : Int) > 16) = true then
 some (.v (.bool false), [.dead])
 else
 J k33_l4 (s33_l4 m (IntKind.i64.wrap (v5 + 1)) h0)
 else none
 else none
 else
 some (.v (.bool false), [.dead])
 else none
 else none
 else
 J k33_j4 (s33_j4 m h0) := by kernel_rfl
theorem e33_j4 (J m h0) : run tb C33 U33 J (R33 m) 4096 k33_j4 (s33_j4 m h0) =
 J k33_l6 (s33_l6 m 0 0 h0) := by kernel_rfl
theorem e33_l6 (J m v6 v7 h0) : run tb C33 U33 J (R33 m) 4096 k33_l6 (s33_l6 m v6 v7 h0) =
 if decide (v7 < (↑(h0.getD (0) (Module.mk [] [] [] [])).funcs.length : Int)) = true then
 if 0 ≤ v7 then
 if v7 < (↑(h0.getD (0) (Module.mk [] [] [] [])).funcs.length : Int) then
 if wideF (Func.mk ((h0.getD (0) (Module.mk [] [] [] [])).funcs.getD v7.toNat (Func.mk ByteArray.empty false [] 0 [])).name ((h0.getD (0) (Module.mk [] [] [] [])).funcs.getD v7.toNat (Func.mk ByteArray.empty false [] 0 [])).out ((h0.getD (0) (Module.mk [] [] [] [])).funcs.getD v7.toNat (Func.mk ByteArray.empty false [] 0 [])).params ((h0.getD (0) (Module.mk [] [] [] [])).funcs.getD v7.toNat (Func.mk ByteArray.empty false [] 0 [])).result ((h0.getD (0) (Module.mk [] [] [] [])).funcs.getD v7.toNat (Func.mk ByteArray.empty false [] 0 [])).blocks) then
 if (!lightB (Func.mk ((h0.getD (0) (Module.mk [] [] [] [])).funcs.getD v7.toNat (Func.mk ByteArray.empty false [] 0 [])).name ((h0.getD (0) (Module.mk [] [] [] [])).funcs.getD v7.toNat (Func.mk ByteArray.empty false [] 0 [])).out ((h0.getD (0) (Module.mk [] [] [] [])).funcs.getD v7.toNat (Func.mk ByteArray.empty false [] 0 [])).params ((h0.getD (0) (Module.mk [] [] [] [])).funcs.getD v7.toNat (Func.mk ByteArray.empty false [] 0 [])).result ((h0.getD (0) (Module.mk [] [] [] [])).funcs.getD v7.toNat (Func.mk ByteArray.empty false [] 0 [])).blocks)) = true then
 some (.v (.bool false), [.dead])
 else
 if 0 ≤ v7 then
 if v7 < (↑(h0.getD (0) (Module.mk [] [] [] [])).funcs.length : Int) then
 if okF (Func.mk ((h0.getD (0) (Module.mk [] [] [] [])).funcs.getD v7.toNat (Func.mk ByteArray.empty false [] 0 [])).name ((h0.getD (0) (Module.mk [] [] [] [])).funcs.getD v7.toNat (Func.mk ByteArray.empty false [] 0 [])).out ((h0.getD (0) (Module.mk [] [] [] [])).funcs.getD v7.toNat (Func.mk ByteArray.empty false [] 0 [])).params ((h0.getD (0) (Module.mk [] [] [] [])).funcs.getD v7.toNat (Func.mk ByteArray.empty false [] 0 [])).result ((h0.getD (0) (Module.mk [] [] [] [])).funcs.getD v7.toNat (Func.mk ByteArray.empty false [] 0 [])).blocks) then
 J k33_l6 (s33_l6 m (IntKind.i64.wrap (v6 + (↑(szT ((h0.getD (0) (Module.mk [] [] [] [])).funcs.getD v7.toNat (Func.mk ByteArray.empty false [] 0 [])).blocks) : Int))) (IntKind.i64.wrap (v7 + 1)) h0)
 else none
 else none
 else none
 else none
 else none
 else none
 else
 J k33_j6 (s33_j6 m v6) := by kernel_rfl
theorem e33_j6 (J m v6) : run tb C33 U33 J (R33 m) 4096 k33_j6 (s33_j6 m v6) =
 some (.v (.bool (decide (v6 ≤ 160))), [.dead]) := by kernel_rfl

theorem in33 : Entered 33 := ⟨Try.f33, b33, by kernel_rfl, by kernel_rfl, by kernel_rfl⟩
theorem fn33 (m : Ev.Module) {res : AV Ty} {outs : List (AV Ty)} (h : Ends C33 U33 (R33 m) [.code b33] ⟨slotsA (a33 m) 0 0, heapA (a33 m)⟩ (some (res, outs))) : CallOk tb Try.prog 33 (a33 m) res outs := by
  obtain ⟨n0, hn⟩ := h
  exact fn_ok (C := C33) (U := U33) (n := 0 + n0) (q := .keep) tbOk good (fun f mu S h => by
    unfold C33 at h
    simp only at h
    split at h
    · cases h; exact ⟨in25, S25_ok⟩
    · cases h; exact ⟨in28, S28_ok⟩
    · cases h) mixed (fn := Try.f33) (body := b33) (by kernel_rfl) (by kernel_rfl) rfl rfl (by show 1 ≤ 129; omega) (hn 0)
section
variable {m : Ev.Module}
theorem Small.x {i : Nat} (hi : i < m.externs.length) (hl : m.externs.length ≤ 14) (h : fineX (m.externs.getD i (Extern.mk ByteArray.empty [] 0))) : Goes C33 U33 (R33 m) k33_l0 (s33_l0 m i [m]) k33_l0 (s33_l0 m (i + 1 : Nat) [m]) := .step fun J => by
  obtain ⟨h1, h2⟩ := h
  rw [e33_l0]
  simp only [Int.toNat_natCast, List.getD_cons_zero]
  simp (disch := first | omega | assumption | (rw [decide_eq_true_eq]; omega) | (rw [decide_eq_false_iff_not]; omega)) only [↓if_pos, ↓if_neg, if_true, if_false, wrap_up, Int.toNat_natCast, Nat.zero_add]
  rfl
theorem Small.x0 {i : Nat} (hi : i < m.externs.length) (hl : m.externs.length ≤ 14) (h : ¬ fineX (m.externs.getD i (Extern.mk ByteArray.empty [] 0))) : Ends C33 U33 (R33 m) k33_l0 (s33_l0 m i [m]) (some (.v (.bool false), [.dead])) := .step fun J => by
  rw [e33_l0]
  simp only [Int.toNat_natCast, List.getD_cons_zero]
  by_cases h1 : (m.externs.getD i (Extern.mk ByteArray.empty [] 0)).name.size ≤ 40
  · have h2 : ¬ (m.externs.getD i (Extern.mk ByteArray.empty [] 0)).params.length ≤ 10 := fun e => h ⟨h1, e⟩
    simp (disch := first | omega | assumption | (rw [decide_eq_true_eq]; omega) | (rw [decide_eq_false_iff_not]; omega)) only [↓if_pos, ↓if_neg, if_true, if_false, wrap_up, Int.toNat_natCast, Nat.zero_add]
  · simp (disch := first | omega | assumption | (rw [decide_eq_true_eq]; omega) | (rw [decide_eq_false_iff_not]; omega)) only [↓if_pos, ↓if_neg, if_true, if_false, wrap_up, Int.toNat_natCast, Nat.zero_add]
theorem Small.g {i : Nat} (hi : i < m.globals.length) (hl : m.globals.length ≤ 14) (h : fineG (m.globals.getD i (Global.mk ByteArray.empty []))) : Goes C33 U33 (R33 m) k33_l2 (s33_l2 m i [m]) k33_l2 (s33_l2 m (i + 1 : Nat) [m]) := .step fun J => by
  obtain ⟨h1, h2⟩ := h
  rw [e33_l2]
  simp only [Int.toNat_natCast, List.getD_cons_zero]
  simp (disch := first | omega | assumption | (rw [decide_eq_true_eq]; omega) | (rw [decide_eq_false_iff_not]; omega)) only [↓if_pos, ↓if_neg, if_true, if_false, wrap_up, Int.toNat_natCast, Nat.zero_add]
  rfl
theorem Small.g0 {i : Nat} (hi : i < m.globals.length) (hl : m.globals.length ≤ 14) (h : ¬ fineG (m.globals.getD i (Global.mk ByteArray.empty []))) : Ends C33 U33 (R33 m) k33_l2 (s33_l2 m i [m]) (some (.v (.bool false), [.dead])) := .step fun J => by
  rw [e33_l2]
  simp only [Int.toNat_natCast, List.getD_cons_zero]
  by_cases h1 : (m.globals.getD i (Global.mk ByteArray.empty [])).name.size ≤ 40
  · have h2 : ¬ (m.globals.getD i (Global.mk ByteArray.empty [])).cells.length ≤ 20 := fun e => h ⟨h1, e⟩
    simp (disch := first | omega | assumption | (rw [decide_eq_true_eq]; omega) | (rw [decide_eq_false_iff_not]; omega)) only [↓if_pos, ↓if_neg, if_true, if_false, wrap_up, Int.toNat_natCast, Nat.zero_add]
  · simp (disch := first | omega | assumption | (rw [decide_eq_true_eq]; omega) | (rw [decide_eq_false_iff_not]; omega)) only [↓if_pos, ↓if_neg, if_true, if_false, wrap_up, Int.toNat_natCast, Nat.zero_add]
theorem Small.t {i : Nat} (hi : i < m.tables.length) (hl : m.tables.length ≤ 8) (h : fineT (m.tables.getD i (Table.mk ByteArray.empty []))) : Goes C33 U33 (R33 m) k33_l4 (s33_l4 m i [m]) k33_l4 (s33_l4 m (i + 1 : Nat) [m]) := .step fun J => by
  obtain ⟨h1, h2⟩ := h
  rw [e33_l4]
  simp only [Int.toNat_natCast, List.getD_cons_zero]
  simp (disch := first | omega | assumption | (rw [decide_eq_true_eq]; omega) | (rw [decide_eq_false_iff_not]; omega)) only [↓if_pos, ↓if_neg, if_true, if_false, wrap_up, Int.toNat_natCast, Nat.zero_add]
  rfl
theorem Small.t0 {i : Nat} (hi : i < m.tables.length) (hl : m.tables.length ≤ 8) (h : ¬ fineT (m.tables.getD i (Table.mk ByteArray.empty []))) : Ends C33 U33 (R33 m) k33_l4 (s33_l4 m i [m]) (some (.v (.bool false), [.dead])) := .step fun J => by
  rw [e33_l4]
  simp only [Int.toNat_natCast, List.getD_cons_zero]
  by_cases h1 : (m.tables.getD i (Table.mk ByteArray.empty [])).name.size ≤ 40
  · have h2 : ¬ (m.tables.getD i (Table.mk ByteArray.empty [])).funcs.length ≤ 16 := fun e => h ⟨h1, e⟩
    simp (disch := first | omega | assumption | (rw [decide_eq_true_eq]; omega) | (rw [decide_eq_false_iff_not]; omega)) only [↓if_pos, ↓if_neg, if_true, if_false, wrap_up, Int.toNat_natCast, Nat.zero_add]
  · simp (disch := first | omega | assumption | (rw [decide_eq_true_eq]; omega) | (rw [decide_eq_false_iff_not]; omega)) only [↓if_pos, ↓if_neg, if_true, if_false, wrap_up, Int.toNat_natCast, Nat.zero_add]
theorem Small.f {i n : Nat} (hi : i < m.funcs.length) (hl : m.funcs.length ≤ 26) (hw : wideM m) (hn : n ≤ 1000000) (h : lightF (m.funcs.getD i (Func.mk ByteArray.empty false [] 0 []))) : Goes C33 U33 (R33 m) k33_l6 (s33_l6 m n i [m]) k33_l6 (s33_l6 m (n + szT (m.funcs.getD i (Func.mk ByteArray.empty false [] 0 [])).blocks : Nat) (i + 1 : Nat) [m]) := .step fun J => by
  have e : (Func.mk (m.funcs.getD i (Func.mk ByteArray.empty false [] 0 [])).name (m.funcs.getD i (Func.mk ByteArray.empty false [] 0 [])).out (m.funcs.getD i (Func.mk ByteArray.empty false [] 0 [])).params (m.funcs.getD i (Func.mk ByteArray.empty false [] 0 [])).result (m.funcs.getD i (Func.mk ByteArray.empty false [] 0 [])).blocks) = m.funcs.getD i (Func.mk ByteArray.empty false [] 0 []) := rfl
  have b1 : lightB (m.funcs.getD i (Func.mk ByteArray.empty false [] 0 [])) = true := decide_eq_true h
  have h2 := h.ok
  have h3 := hw _ (getD_mem (d := (Func.mk ByteArray.empty false [] 0 [])) hi)
  have h4 := h.2.2.2.1
  have w : IntKind.i64.wrap ((n : Int) + szT (m.funcs.getD i (Func.mk ByteArray.empty false [] 0 [])).blocks) = ((n + szT (m.funcs.getD i (Func.mk ByteArray.empty false [] 0 [])).blocks : Nat) : Int) := wrap_nat (by omega) (by omega)
  rw [e33_l6]
  simp only [Int.toNat_natCast, List.getD_cons_zero]
  rw [e, b1, w]
  simp (disch := first | omega | assumption | (rw [decide_eq_true_eq]; omega) | (rw [decide_eq_false_iff_not]; omega)) only [↓if_pos, ↓if_neg, if_true, if_false, wrap_up, Int.toNat_natCast, Nat.zero_add, Bool.not_true, Bool.false_eq_true]
  rfl
theorem Small.f0 {i n : Nat} (hi : i < m.funcs.length) (hl : m.funcs.length ≤ 26) (hw : wideM m) (h : ¬ lightF (m.funcs.getD i (Func.mk ByteArray.empty false [] 0 []))) : Ends C33 U33 (R33 m) k33_l6 (s33_l6 m n i [m]) (some (.v (.bool false), [.dead])) := .step fun J => by
  have e : (Func.mk (m.funcs.getD i (Func.mk ByteArray.empty false [] 0 [])).name (m.funcs.getD i (Func.mk ByteArray.empty false [] 0 [])).out (m.funcs.getD i (Func.mk ByteArray.empty false [] 0 [])).params (m.funcs.getD i (Func.mk ByteArray.empty false [] 0 [])).result (m.funcs.getD i (Func.mk ByteArray.empty false [] 0 [])).blocks) = m.funcs.getD i (Func.mk ByteArray.empty false [] 0 []) := rfl
  have b1 : lightB (m.funcs.getD i (Func.mk ByteArray.empty false [] 0 [])) = false := decide_eq_false h
  have h3 := hw _ (getD_mem (d := (Func.mk ByteArray.empty false [] 0 [])) hi)
  rw [e33_l6]
  simp only [Int.toNat_natCast, List.getD_cons_zero]
  rw [e, b1]
  simp (disch := first | omega | assumption | (rw [decide_eq_true_eq]; omega) | (rw [decide_eq_false_iff_not]; omega)) only [↓if_pos, ↓if_neg, if_true, if_false, wrap_up, Int.toNat_natCast, Nat.zero_add, Bool.not_false]
end
def smallB (m : Ev.Module) : Bool := decide (smallM m)
theorem small_ok (m : Ev.Module) (hw : wideM m) : CallOk tb Try.prog 33 (a33 m) (.v (.bool (smallB m))) [.dead] := by
  refine fn33 m ?_
  have no : ¬ smallM m → (some (.v (.bool (smallB m)), [.dead]) : EvR) = some (.v (.bool false), [.dead]) := fun h => by
    rw [show smallB m = false from decide_eq_false h]
  by_cases hsz : m.externs.length ≤ 14 ∧ m.globals.length ≤ 14 ∧ m.tables.length ≤ 8 ∧ m.funcs.length ≤ 26
  · obtain ⟨h1, h2, h3, h4⟩ := hsz
    refine Goes.ends (k' := k33_l0) (s' := s33_l0 m (0 : Nat) [m]) (.step fun J => ?_) ?_
    · rw [e33]
      simp (disch := first | omega | assumption | (rw [decide_eq_true_eq]; omega) | (rw [decide_eq_false_iff_not]; omega)) only [↓if_pos, ↓if_neg, if_true, if_false, wrap_up, Int.toNat_natCast, Nat.zero_add]
      rfl
    refine Ends.all (rF := some (.v (.bool false), [.dead])) (fun i => s33_l0 m i [m]) m.externs.length (fun i => fineX (m.externs.getD i (Extern.mk ByteArray.empty [] 0))) (fun i hi hp => Small.x hi h1 hp) (fun i hi hp => Small.x0 hi h1 hp) (fun hx => ?_) (fun hx => no fun e => hx (all_getD.2 e.2.1))
    refine Goes.ends (k' := k33_j0) (s' := s33_j0 m [m]) (.step fun J => ?_) (Goes.ends (.step fun J => e33_j0 ..) ?_)
    · rw [e33_l0]
      simp only [List.getD_cons_zero]
      simp (disch := first | omega | assumption | (rw [decide_eq_true_eq]; omega) | (rw [decide_eq_false_iff_not]; omega)) only [↓if_pos, ↓if_neg, if_true, if_false, wrap_up, Int.toNat_natCast, Nat.zero_add]
    refine Ends.all (rF := some (.v (.bool false), [.dead])) (fun i => s33_l2 m i [m]) m.globals.length (fun i => fineG (m.globals.getD i (Global.mk ByteArray.empty []))) (fun i hi hp => Small.g hi h2 hp) (fun i hi hp => Small.g0 hi h2 hp) (fun hg => ?_) (fun hx => no fun e => hx (all_getD.2 e.2.2.1))
    refine Goes.ends (k' := k33_j2) (s' := s33_j2 m [m]) (.step fun J => ?_) (Goes.ends (.step fun J => e33_j2 ..) ?_)
    · rw [e33_l2]
      simp only [List.getD_cons_zero]
      simp (disch := first | omega | assumption | (rw [decide_eq_true_eq]; omega) | (rw [decide_eq_false_iff_not]; omega)) only [↓if_pos, ↓if_neg, if_true, if_false, wrap_up, Int.toNat_natCast, Nat.zero_add]
    refine Ends.all (rF := some (.v (.bool false), [.dead])) (fun i => s33_l4 m i [m]) m.tables.length (fun i => fineT (m.tables.getD i (Table.mk ByteArray.empty []))) (fun i hi hp => Small.t hi h3 hp) (fun i hi hp => Small.t0 hi h3 hp) (fun ht => ?_) (fun hx => no fun e => hx (all_getD.2 e.2.2.2.1))
    refine Goes.ends (k' := k33_j4) (s' := s33_j4 m [m]) (.step fun J => ?_) (Goes.ends (.step fun J => e33_j4 ..) ?_)
    · rw [e33_l4]
      simp only [List.getD_cons_zero]
      simp (disch := first | omega | assumption | (rw [decide_eq_true_eq]; omega) | (rw [decide_eq_false_iff_not]; omega)) only [↓if_pos, ↓if_neg, if_true, if_false, wrap_up, Int.toNat_natCast, Nat.zero_add]
    have key : ∀ (q i : Nat), i + q = m.funcs.length → (∀ f, f ∈ m.funcs.take i → lightF f) → Ends C33 U33 (R33 m) k33_l6 (s33_l6 m (szF (m.funcs.take i)) i [m]) (some (.v (.bool (smallB m)), [.dead])) := by
      intro q
      induction q with
      | zero =>
        intro i hi hf
        have e : i = m.funcs.length := by omega
        refine Goes.ends (k' := k33_j6) (s' := s33_j6 m (szF m.funcs)) (.step fun J => ?_) (.step fun J => ?_)
        · rw [e33_l6]
          simp only [List.getD_cons_zero]
          subst e
          simp (disch := first | omega | assumption | (rw [decide_eq_true_eq]; omega) | (rw [decide_eq_false_iff_not]; omega)) only [↓if_pos, ↓if_neg, if_true, if_false, wrap_up, Int.toNat_natCast, Nat.zero_add, List.take_length]
        · rw [e33_j6]
          subst e
          rw [List.take_length] at hf
          rw [show smallB m = decide ((szF m.funcs : Int) ≤ 160) from decide_eq_decide.2 ⟨fun h => by have := h.2.2.2.2.2; omega, fun h => ⟨⟨h1, h2, h3, h4⟩, all_getD.1 hx, all_getD.1 hg, all_getD.1 ht, hf, by omega⟩⟩]
      | succ q ih =>
        intro i hi hf
        have hi' : i < m.funcs.length := by omega
        have hs : szF (m.funcs.take i) ≤ 90000 := szF_le (by rw [List.length_take]; omega) hf
        by_cases hp : lightF (m.funcs.getD i (Func.mk ByteArray.empty false [] 0 []))
        · refine (Small.f hi' h4 hw (by omega) hp).ends ?_
          rw [← szF_step hi']
          refine ih (i + 1) (by omega) fun f hm => ?_
          rw [take_step (d := (Func.mk ByteArray.empty false [] 0 [])) hi'] at hm
          rcases List.mem_append.1 hm with hm | hm
          · exact hf f hm
          · rw [List.mem_singleton] at hm; subst hm; exact hp
        · rw [no fun e => hp (e.2.2.2.2.1 _ (getD_mem hi'))]
          exact Small.f0 hi' h4 hw hp
    exact key m.funcs.length 0 (by omega) (fun f hm => by simp at hm)
  · rw [no fun e => hsz e.1]
    refine .step fun J => ?_
    rw [e33]
    by_cases h1 : m.externs.length ≤ 14
    · by_cases h2 : m.globals.length ≤ 14
      · by_cases h3 : m.tables.length ≤ 8
        · have h4 : ¬ m.funcs.length ≤ 26 := fun h4 => hsz ⟨h1, h2, h3, h4⟩
          simp (disch := first | omega | assumption | (rw [decide_eq_true_eq]; omega) | (rw [decide_eq_false_iff_not]; omega)) only [↓if_pos, ↓if_neg, if_true, if_false, wrap_up, Int.toNat_natCast, Nat.zero_add]
        · simp (disch := first | omega | assumption | (rw [decide_eq_true_eq]; omega) | (rw [decide_eq_false_iff_not]; omega)) only [↓if_pos, ↓if_neg, if_true, if_false, wrap_up, Int.toNat_natCast, Nat.zero_add]
      · simp (disch := first | omega | assumption | (rw [decide_eq_true_eq]; omega) | (rw [decide_eq_false_iff_not]; omega)) only [↓if_pos, ↓if_neg, if_true, if_false, wrap_up, Int.toNat_natCast, Nat.zero_add]
    · simp (disch := first | omega | assumption | (rw [decide_eq_true_eq]; omega) | (rw [decide_eq_false_iff_not]; omega)) only [↓if_pos, ↓if_neg, if_true, if_false, wrap_up, Int.toNat_natCast, Nat.zero_add]
def S33 : List (AV Ty) → T (AV Ty × List (AV Ty))
  | [.agg x] => match cod27.dec false x with
    | some m => .ite (wideM m) (wideM.dec m) (.ret (.v (.bool (smallB m)), [.dead])) .fail
    | none => .fail
  | _ => .fail
theorem S33_ok (l : List (AV Ty)) (r : AV Ty) (outs : List (AV Ty)) (h : (S33 l).val = some (r, outs)) : CallOk tb Try.prog 33 l r outs := by
  unfold S33 at h
  split at h
  · rename_i x
    split at h
    · rename_i m e1
      rcases ite_val h with ⟨e, h⟩ | ⟨_, h⟩
      · cases h
        have h1 := cod27_ok.dec false x m e1
        subst h1
        exact small_ok m e
      · cases h
    · cases h
  · cases h
end Go.Proofs.Ytggibjbcbicpjaa.Ev
