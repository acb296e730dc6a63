/- plnref3.Neat: it comes to what ir.Neat comes to. -/
import Derived.Test.YtggibjbcbicpjaaIrZ
import Derived.Test.YtggibjbcbicpjaaIrJ
namespace Go.Proofs.Ytggibjbcbicpjaa.Ev
open Go
set_option linter.unusedVariables false
set_option linter.unusedSimpArgs false
/-- The parameters, each itself. -/
def initM : Nat → List (Value × Int)
  | 0 => []
  | n + 1 => mput (initM n) (key ((n + 1 : Nat) : Int)) ((n + 1 : Nat) : Int)
theorem initM_get : ∀ (p : Nat) (v : Int), mget (initM p) (key v) = if 1 ≤ v ∧ v ≤ p then some v else none
  | 0, v => by
    rw [if_neg (by omega)]
    rfl
  | p + 1, v => by
    unfold initM
    rw [mget_mput, initM_get p v]
    by_cases h : v = ((p + 1 : Nat) : Int)
    · rw [if_pos h, if_pos (by omega), h]
    · rw [if_neg h]
      by_cases h2 : 1 ≤ v ∧ v ≤ p
      · rw [if_pos h2, if_pos (by omega)]
      · rw [if_neg h2, if_neg (by omega)]
def RelM (p : Nat) (m1 m2 : List (Value × Int)) : Prop := ∀ v : Int, mget m1 (key v) = if 1 ≤ v ∧ v ≤ p then some v else mget m2 (key v)
theorem RelM.one {p : Nat} {m1 m2 : List (Value × Int)} (h : RelM p m1 m2) (n : Nat) (i : Ev.Ins) : RelM p (map1 m1 n i) (map1 m2 n i) := by
  unfold map1
  by_cases ht : i.type_ = 0
  · rw [if_pos ht, if_pos ht]; exact h
  rw [if_neg ht, if_neg ht]
  have hk := h i.to_
  by_cases hp : 1 ≤ i.to_ ∧ i.to_ ≤ p
  · rw [if_pos hp] at hk
    rw [hk]
    intro v
    cases hm : mget m2 (key i.to_) with
    | some x => exact h v
    | none =>
      simp only
      rw [h v, mget_mput]
      by_cases hv : 1 ≤ v ∧ v ≤ p
      · rw [if_pos hv, if_pos hv]
      · rw [if_neg hv, if_neg hv, if_neg (fun e : v = i.to_ => hv (by rw [e]; exact hp))]
  · rw [if_neg hp] at hk
    rw [hk]
    cases hm : mget m2 (key i.to_) with
    | some x => exact h
    | none =>
      intro v
      simp only
      rw [mget_mput, mget_mput, h v]
      by_cases e : v = i.to_
      · subst e
        rw [if_pos rfl, if_neg hp, if_pos rfl]
      · rw [if_neg e, if_neg e]
theorem RelM.row {p : Nat} : ∀ (l : List Ev.Ins) {m1 m2 : List (Value × Int)} (n : Nat), RelM p m1 m2 → RelM p (mapL m1 n l) (mapL m2 n l)
  | [], _, _, _, h => h
  | i :: l, _, _, n, h => RelM.row l _ (h.one n i)
theorem RelM.all {p : Nat} : ∀ (l : List Ev.Block) {m1 m2 : List (Value × Int)} (n : Nat), RelM p m1 m2 → RelM p (mapB m1 n l) (mapB m2 n l)
  | [], _, _, _, h => h
  | b :: l, _, _, n, h => RelM.all l _ (RelM.row b.ins n h)
def subR (m : List (Value × Int)) (v : Int) : Int := (mget m (key v)).getD 0
def subRI (m : List (Value × Int)) (i : Ev.Ins) : Ev.Ins := ⟨i.op, i.type_, i.to_, i.sym_, i.num, i.args.map (subR m), i.into⟩
def subRB (m : List (Value × Int)) (b : Ev.Block) : Ev.Block := Block.mk (b.ins.map (subRI m))
theorem RelM.sub {p : Nat} {m1 m2 : List (Value × Int)} (h : RelM p m1 m2) : subRB m1 = subB m2 p := by
  have h1 : subR m1 = subV m2 p := by
    funext v
    unfold subR subV
    rw [h v]
    split <;> rfl
  funext b
  unfold subRB subB subRI subI
  rw [h1]
theorem risI_G {i : Ev.Ins} (h : i.op = 26) : risI i = ⟨i.op, i.type_, i.to_, i.sym_, i.num, (riseG i.args i.into).1, (riseG i.args i.into).2⟩ := by
  unfold risI riseG
  by_cases hl : i.args.length = i.into.length
  · rw [if_pos ⟨h, hl⟩, if_pos hl]
  · rw [if_neg (fun e => hl e.2), if_neg hl]
noncomputable def b54 : Code := bodyOf Try.f54
noncomputable def C54 : Cfg Ty := ⟨fun
  | 32 => some ([], S32)
  | 93 => some ([], S93)
  | _ => none, fun
  | 2 => true
  | 3 => true
  | 400141 => true
  | 700015 => true
  | _ => false, 142, 0⟩
def U54 : Cuts := ⟨fun
  | 0 => some [(2, none), (3, none), (4, none), (5, none)]
  | 2 => some [(2, none), (3, none), (5, none)]
  | 3 => some [(2, none), (3, none), (4, none), (5, none), (7, none)]
  | 4 => some [(2, none), (3, none), (4, none), (5, none), (7, none)]
  | 5 => some [(2, none), (3, none), (4, none), (5, none), (7, none), (8, none)]
  | 6 => some [(2, none), (3, none)]
  | 7 => some [(2, none), (3, none), (5, none), (12, none)]
  | 8 => some [(2, none), (3, none), (5, none), (12, none)]
  | 9 => some [(2, none), (3, none), (5, none), (12, none), (13, none)]
  | 10 => some [(2, none), (3, none), (5, none), (12, none), (13, none)]
  | _ => none, fun
  | 0 => some [(2, none), (3, none), (4, none), (5, none), (6, none)]
  | 2 => some [(2, none), (3, none), (4, none), (5, none), (7, none)]
  | 4 => some [(2, none), (3, none), (4, none), (5, none), (7, none), (8, none)]
  | 6 => some [(2, none), (3, none), (5, none), (12, none)]
  | 8 => some [(2, none), (3, none), (5, none), (12, none), (13, none)]
  | 10 => some [(2, none), (3, none), (5, none), (12, none), (13, none), (14, none), (15, none)]
  | _ => none, fun _ => none⟩
noncomputable def k54_j0 : List Item := [.code (sndC (sndC (sndC (sndC b54))))]
noncomputable def k54_l0 : List Item := [.code (inC (inC (sndC (fstC (sndC (sndC (sndC b54))))))), .inLoop (inC (inC (sndC (fstC (sndC (sndC (sndC b54))))))), .inBlock 0, .code (sndC (sndC (sndC (sndC b54))))]
noncomputable def k54_j2 : List Item := [.code (sndC (sndC (sndC (sndC (sndC b54)))))]
noncomputable def k54_l2 : List Item := [.code (inC (inC (sndC (fstC (sndC (sndC (sndC (sndC b54)))))))), .inLoop (inC (inC (sndC (fstC (sndC (sndC (sndC (sndC b54)))))))), .inBlock 2, .code (sndC (sndC (sndC (sndC (sndC b54)))))]
noncomputable def k54_j3 : List Item := [.code (sndC (sndC (inC (inC (sndC (fstC (sndC (sndC (sndC (sndC b54)))))))))), .inLoop (inC (inC (sndC (fstC (sndC (sndC (sndC (sndC b54)))))))), .inBlock 2, .code (sndC (sndC (sndC (sndC (sndC b54)))))]
noncomputable def k54_j4 : List Item := [.inBlock 3, .code (sndC (sndC (inC (inC (sndC (fstC (sndC (sndC (sndC (sndC b54)))))))))), .inLoop (inC (inC (sndC (fstC (sndC (sndC (sndC (sndC b54)))))))), .inBlock 2, .code (sndC (sndC (sndC (sndC (sndC b54)))))]
noncomputable def k54_l4 : List Item := [.code (inC (inC (sndC (inC (fstC (sndC (inC (inC (sndC (fstC (sndC (sndC (sndC (sndC b54)))))))))))))), .inLoop (inC (inC (sndC (inC (fstC (sndC (inC (inC (sndC (fstC (sndC (sndC (sndC (sndC b54)))))))))))))), .inBlock 4, .inBlock 3, .code (sndC (sndC (inC (inC (sndC (fstC (sndC (sndC (sndC (sndC b54)))))))))), .inLoop (inC (inC (sndC (fstC (sndC (sndC (sndC (sndC b54)))))))), .inBlock 2, .code (sndC (sndC (sndC (sndC (sndC b54)))))]
noncomputable def k54_j5 : List Item := [.code (sndC (sndC (inC (inC (sndC (inC (fstC (sndC (inC (inC (sndC (fstC (sndC (sndC (sndC (sndC b54)))))))))))))))), .inLoop (inC (inC (sndC (inC (fstC (sndC (inC (inC (sndC (fstC (sndC (sndC (sndC (sndC b54)))))))))))))), .inBlock 4, .inBlock 3, .code (sndC (sndC (inC (inC (sndC (fstC (sndC (sndC (sndC (sndC b54)))))))))), .inLoop (inC (inC (sndC (fstC (sndC (sndC (sndC (sndC b54)))))))), .inBlock 2, .code (sndC (sndC (sndC (sndC (sndC b54)))))]
noncomputable def k54_j6 : List Item := [.code (sndC (sndC (sndC (sndC (sndC (sndC b54))))))]
noncomputable def k54_l6 : List Item := [.code (inC (inC (sndC (fstC (sndC (sndC (sndC (sndC (sndC b54))))))))), .inLoop (inC (inC (sndC (fstC (sndC (sndC (sndC (sndC (sndC b54))))))))), .inBlock 6, .code (sndC (sndC (sndC (sndC (sndC (sndC b54))))))]
noncomputable def k54_j7 : List Item := [.code (sndC (sndC (inC (inC (sndC (fstC (sndC (sndC (sndC (sndC (sndC b54))))))))))), .inLoop (inC (inC (sndC (fstC (sndC (sndC (sndC (sndC (sndC b54))))))))), .inBlock 6, .code (sndC (sndC (sndC (sndC (sndC (sndC b54))))))]
noncomputable def k54_j8 : List Item := [.inBlock 7, .code (sndC (sndC (inC (inC (sndC (fstC (sndC (sndC (sndC (sndC (sndC b54))))))))))), .inLoop (inC (inC (sndC (fstC (sndC (sndC (sndC (sndC (sndC b54))))))))), .inBlock 6, .code (sndC (sndC (sndC (sndC (sndC (sndC b54))))))]
noncomputable def k54_l8 : List Item := [.code (inC (inC (sndC (inC (fstC (sndC (inC (inC (sndC (fstC (sndC (sndC (sndC (sndC (sndC b54))))))))))))))), .inLoop (inC (inC (sndC (inC (fstC (sndC (inC (inC (sndC (fstC (sndC (sndC (sndC (sndC (sndC b54))))))))))))))), .inBlock 8, .inBlock 7, .code (sndC (sndC (inC (inC (sndC (fstC (sndC (sndC (sndC (sndC (sndC b54))))))))))), .inLoop (inC (inC (sndC (fstC (sndC (sndC (sndC (sndC (sndC b54))))))))), .inBlock 6, .code (sndC (sndC (sndC (sndC (sndC (sndC b54))))))]
noncomputable def k54_j9 : List Item := [.code (sndC (sndC (inC (inC (sndC (inC (fstC (sndC (inC (inC (sndC (fstC (sndC (sndC (sndC (sndC (sndC b54))))))))))))))))), .inLoop (inC (inC (sndC (inC (fstC (sndC (inC (inC (sndC (fstC (sndC (sndC (sndC (sndC (sndC b54))))))))))))))), .inBlock 8, .inBlock 7, .code (sndC (sndC (inC (inC (sndC (fstC (sndC (sndC (sndC (sndC (sndC b54))))))))))), .inLoop (inC (inC (sndC (fstC (sndC (sndC (sndC (sndC (sndC b54))))))))), .inBlock 6, .code (sndC (sndC (sndC (sndC (sndC (sndC b54))))))]
noncomputable def k54_j10 : List Item := [.inBlock 9, .code (sndC (sndC (inC (inC (sndC (inC (fstC (sndC (inC (inC (sndC (fstC (sndC (sndC (sndC (sndC (sndC b54))))))))))))))))), .inLoop (inC (inC (sndC (inC (fstC (sndC (inC (inC (sndC (fstC (sndC (sndC (sndC (sndC (sndC b54))))))))))))))), .inBlock 8, .inBlock 7, .code (sndC (sndC (inC (inC (sndC (fstC (sndC (sndC (sndC (sndC (sndC b54))))))))))), .inLoop (inC (inC (sndC (fstC (sndC (sndC (sndC (sndC (sndC b54))))))))), .inBlock 6, .code (sndC (sndC (sndC (sndC (sndC (sndC b54))))))]
noncomputable def k54_l10 : List Item := [.code (inC (inC (sndC (sndC (inC (fstC (sndC (inC (inC (sndC (inC (fstC (sndC (inC (inC (sndC (fstC (sndC (sndC (sndC (sndC (sndC b54)))))))))))))))))))))), .inLoop (inC (inC (sndC (sndC (inC (fstC (sndC (inC (inC (sndC (inC (fstC (sndC (inC (inC (sndC (fstC (sndC (sndC (sndC (sndC (sndC b54)))))))))))))))))))))), .inBlock 10, .inBlock 9, .code (sndC (sndC (inC (inC (sndC (inC (fstC (sndC (inC (inC (sndC (fstC (sndC (sndC (sndC (sndC (sndC b54))))))))))))))))), .inLoop (inC (inC (sndC (inC (fstC (sndC (inC (inC (sndC (fstC (sndC (sndC (sndC (sndC (sndC b54))))))))))))))), .inBlock 8, .inBlock 7, .code (sndC (sndC (inC (inC (sndC (fstC (sndC (sndC (sndC (sndC (sndC b54))))))))))), .inLoop (inC (inC (sndC (fstC (sndC (sndC (sndC (sndC (sndC b54))))))))), .inBlock 6, .code (sndC (sndC (sndC (sndC (sndC (sndC b54))))))]
def a54 (f : Func) : List (AV Ty) := [.agg [.v (.string f.name), .v (.bool f.out), .sl false (3 : Nat) f.params, .v (.int .i64 f.result), .sl false (44 : Nat) f.blocks]]
noncomputable def R54 (f : Func) : St Ty → EvR := resT tb C54 Try.f54.results.toList .keep (a54 f)
def s54_l0 (f : Func) (v4 : Int) (v5 : List (Value × Int)) (v6 : Int) (h0 : ByteArray) (h0_1 : Bool) (h0_2 : List Int) (h0_3 : Int) (h0_4 : List Block) (h1 : ByteArray) (h1_1 : Bool) (h1_2 : List Int) (h1_3 : Int) (h1_4 : List Block) : St Ty := St.mk [(2, .ptr (0) [] (0) (0)), (3, .ptr (1) [] (0) (0)), (4, .v (.int .i64 v4)), (5, AV.mp (some IntKind.i64) IntKind.i64 v5), (6, .v (.int .i64 v6))] [some (Root.mk (33) true [Func.mk h0 h0_1 h0_2 h0_3 h0_4]), some (Root.mk (33) true [Func.mk h1 h1_1 h1_2 h1_3 h1_4])]
def s54_j0 (f : Func) (v4 : Int) (v5 : List (Value × Int)) (h0 : ByteArray) (h0_1 : Bool) (h0_2 : List Int) (h0_3 : Int) (h0_4 : List Block) (h1 : ByteArray) (h1_1 : Bool) (h1_2 : List Int) (h1_3 : Int) (h1_4 : List Block) : St Ty := St.mk [(2, .ptr (0) [] (0) (0)), (3, .ptr (1) [] (0) (0)), (4, .v (.int .i64 v4)), (5, AV.mp (some IntKind.i64) IntKind.i64 v5)] [some (Root.mk (33) true [Func.mk h0 h0_1 h0_2 h0_3 h0_4]), some (Root.mk (33) true [Func.mk h1 h1_1 h1_2 h1_3 h1_4])]
def s54_l2 (f : Func) (v4 : Int) (v5 : List (Value × Int)) (v7 : Int) (h0 : ByteArray) (h0_1 : Bool) (h0_2 : List Int) (h0_3 : Int) (h0_4 : List Block) (h1 : ByteArray) (h1_1 : Bool) (h1_2 : List Int) (h1_3 : Int) (h1_4 : List Block) : St Ty := St.mk [(2, .ptr (0) [] (0) (0)), (3, .ptr (1) [] (0) (0)), (4, .v (.int .i64 v4)), (5, AV.mp (some IntKind.i64) IntKind.i64 v5), (7, .v (.int .i64 v7))] [some (Root.mk (33) true [Func.mk h0 h0_1 h0_2 h0_3 h0_4]), some (Root.mk (33) true [Func.mk h1 h1_1 h1_2 h1_3 h1_4])]
def s54_l4 (f : Func) (v4 : Int) (v5 : List (Value × Int)) (v7 : Int) (v8 : Int) (h0 : ByteArray) (h0_1 : Bool) (h0_2 : List Int) (h0_3 : Int) (h0_4 : List Block) (h1 : ByteArray) (h1_1 : Bool) (h1_2 : List Int) (h1_3 : Int) (h1_4 : List Block) : St Ty := St.mk [(2, .ptr (0) [] (0) (0)), (3, .ptr (1) [] (0) (0)), (4, .v (.int .i64 v4)), (5, AV.mp (some IntKind.i64) IntKind.i64 v5), (7, .v (.int .i64 v7)), (8, .v (.int .i64 v8))] [some (Root.mk (33) true [Func.mk h0 h0_1 h0_2 h0_3 h0_4]), some (Root.mk (33) true [Func.mk h1 h1_1 h1_2 h1_3 h1_4])]
def s54_j2 (f : Func) (v5 : List (Value × Int)) (h0 : ByteArray) (h0_1 : Bool) (h0_2 : List Int) (h0_3 : Int) (h0_4 : List Block) (h1 : ByteArray) (h1_1 : Bool) (h1_2 : List Int) (h1_3 : Int) (h1_4 : List Block) : St Ty := St.mk [(2, .ptr (0) [] (0) (0)), (3, .ptr (1) [] (0) (0)), (5, AV.mp (some IntKind.i64) IntKind.i64 v5)] [some (Root.mk (33) true [Func.mk h0 h0_1 h0_2 h0_3 h0_4]), some (Root.mk (33) true [Func.mk h1 h1_1 h1_2 h1_3 h1_4])]
def s54_j5 (f : Func) (v4 : Int) (v5 : List (Value × Int)) (v7 : Int) (v8 : Int) (h0 : ByteArray) (h0_1 : Bool) (h0_2 : List Int) (h0_3 : Int) (h0_4 : List Block) (h1 : ByteArray) (h1_1 : Bool) (h1_2 : List Int) (h1_3 : Int) (h1_4 : List Block) : St Ty := St.mk [(2, .ptr (0) [] (0) (0)), (3, .ptr (1) [] (0) (0)), (4, .v (.int .i64 v4)), (5, AV.mp (some IntKind.i64) IntKind.i64 v5), (7, .v (.int .i64 v7)), (8, .v (.int .i64 v8))] [some (Root.mk (33) true [Func.mk h0 h0_1 h0_2 h0_3 h0_4]), some (Root.mk (33) true [Func.mk h1 h1_1 h1_2 h1_3 h1_4])]
def s54_j4 (f : Func) (v4 : Int) (v5 : List (Value × Int)) (v7 : Int) (h0 : ByteArray) (h0_1 : Bool) (h0_2 : List Int) (h0_3 : Int) (h0_4 : List Block) (h1 : ByteArray) (h1_1 : Bool) (h1_2 : List Int) (h1_3 : Int) (h1_4 : List Block) : St Ty := St.mk [(2, .ptr (0) [] (0) (0)), (3, .ptr (1) [] (0) (0)), (4, .v (.int .i64 v4)), (5, AV.mp (some IntKind.i64) IntKind.i64 v5), (7, .v (.int .i64 v7))] [some (Root.mk (33) true [Func.mk h0 h0_1 h0_2 h0_3 h0_4]), some (Root.mk (33) true [Func.mk h1 h1_1 h1_2 h1_3 h1_4])]
def s54_l6 (f : Func) (v5 : List (Value × Int)) (v12 : Int) (h0 : ByteArray) (h0_1 : Bool) (h0_2 : List Int) (h0_3 : Int) (h0_4 : List Block) (h1 : ByteArray) (h1_1 : Bool) (h1_2 : List Int) (h1_3 : Int) (h1_4 : List Block) : St Ty := St.mk [(2, .ptr (0) [] (0) (0)), (3, .ptr (1) [] (0) (0)), (5, AV.mp (some IntKind.i64) IntKind.i64 v5), (12, .v (.int .i64 v12))] [some (Root.mk (33) true [Func.mk h0 h0_1 h0_2 h0_3 h0_4]), some (Root.mk (33) true [Func.mk h1 h1_1 h1_2 h1_3 h1_4])]
def s54_j3 (f : Func) (v4 : Int) (v5 : List (Value × Int)) (v7 : Int) (h0 : ByteArray) (h0_1 : Bool) (h0_2 : List Int) (h0_3 : Int) (h0_4 : List Block) (h1 : ByteArray) (h1_1 : Bool) (h1_2 : List Int) (h1_3 : Int) (h1_4 : List Block) : St Ty := St.mk [(2, .ptr (0) [] (0) (0)), (3, .ptr (1) [] (0) (0)), (4, .v (.int .i64 v4)), (5, AV.mp (some IntKind.i64) IntKind.i64 v5), (7, .v (.int .i64 v7))] [some (Root.mk (33) true [Func.mk h0 h0_1 h0_2 h0_3 h0_4]), some (Root.mk (33) true [Func.mk h1 h1_1 h1_2 h1_3 h1_4])]
def s54_l8 (f : Func) (v5 : List (Value × Int)) (v12 : Int) (v13 : Int) (h0 : ByteArray) (h0_1 : Bool) (h0_2 : List Int) (h0_3 : Int) (h0_4 : List Block) (h1 : ByteArray) (h1_1 : Bool) (h1_2 : List Int) (h1_3 : Int) (h1_4 : List Block) : St Ty := St.mk [(2, .ptr (0) [] (0) (0)), (3, .ptr (1) [] (0) (0)), (5, AV.mp (some IntKind.i64) IntKind.i64 v5), (12, .v (.int .i64 v12)), (13, .v (.int .i64 v13))] [some (Root.mk (33) true [Func.mk h0 h0_1 h0_2 h0_3 h0_4]), some (Root.mk (33) true [Func.mk h1 h1_1 h1_2 h1_3 h1_4])]
def s54_j6 (f : Func) (h0 : ByteArray) (h0_1 : Bool) (h0_2 : List Int) (h0_3 : Int) (h0_4 : List Block) (h1 : ByteArray) (h1_1 : Bool) (h1_2 : List Int) (h1_3 : Int) (h1_4 : List Block) : St Ty := St.mk [(2, .ptr (0) [] (0) (0)), (3, .ptr (1) [] (0) (0))] [some (Root.mk (33) true [Func.mk h0 h0_1 h0_2 h0_3 h0_4]), some (Root.mk (33) true [Func.mk h1 h1_1 h1_2 h1_3 h1_4])]
def s54_l10 (f : Func) (v5 : List (Value × Int)) (v12 : Int) (v13 : Int) (v14 : Nat) (v14_1 : Nat) (v15 : Int) (h0 : ByteArray) (h0_1 : Bool) (h0_2 : List Int) (h0_3 : Int) (h0_4 : List Block) (h1 : ByteArray) (h1_1 : Bool) (h1_2 : List Int) (h1_3 : Int) (h1_4 : List Block) : St Ty := St.mk [(2, .ptr (0) [] (0) (0)), (3, .ptr (1) [] (0) (0)), (5, AV.mp (some IntKind.i64) IntKind.i64 v5), (12, .v (.int .i64 v12)), (13, .v (.int .i64 v13)), (14, .ref (1) [(0, 4), (v14, 0), (v14_1, 5)] none false), (15, .v (.int .i64 v15))] [some (Root.mk (33) true [Func.mk h0 h0_1 h0_2 h0_3 h0_4]), some (Root.mk (33) true [Func.mk h1 h1_1 h1_2 h1_3 h1_4])]
def s54_j8 (f : Func) (v5 : List (Value × Int)) (v12 : Int) (h0 : ByteArray) (h0_1 : Bool) (h0_2 : List Int) (h0_3 : Int) (h0_4 : List Block) (h1 : ByteArray) (h1_1 : Bool) (h1_2 : List Int) (h1_3 : Int) (h1_4 : List Block) : St Ty := St.mk [(2, .ptr (0) [] (0) (0)), (3, .ptr (1) [] (0) (0)), (5, AV.mp (some IntKind.i64) IntKind.i64 v5), (12, .v (.int .i64 v12))] [some (Root.mk (33) true [Func.mk h0 h0_1 h0_2 h0_3 h0_4]), some (Root.mk (33) true [Func.mk h1 h1_1 h1_2 h1_3 h1_4])]
def s54_j10 (f : Func) (v5 : List (Value × Int)) (v12 : Int) (v13 : Int) (h0 : ByteArray) (h0_1 : Bool) (h0_2 : List Int) (h0_3 : Int) (h0_4 : List Block) (h1 : ByteArray) (h1_1 : Bool) (h1_2 : List Int) (h1_3 : Int) (h1_4 : List Block) : St Ty := St.mk [(2, .ptr (0) [] (0) (0)), (3, .ptr (1) [] (0) (0)), (5, AV.mp (some IntKind.i64) IntKind.i64 v5), (12, .v (.int .i64 v12)), (13, .v (.int .i64 v13))] [some (Root.mk (33) true [Func.mk h0 h0_1 h0_2 h0_3 h0_4]), some (Root.mk (33) true [Func.mk h1 h1_1 h1_2 h1_3 h1_4])]
def s54_j7 (f : Func) (v5 : List (Value × Int)) (v12 : Int) (h0 : ByteArray) (h0_1 : Bool) (h0_2 : List Int) (h0_3 : Int) (h0_4 : List Block) (h1 : ByteArray) (h1_1 : Bool) (h1_2 : List Int) (h1_3 : Int) (h1_4 : List Block) : St Ty := St.mk [(2, .ptr (0) [] (0) (0)), (3, .ptr (1) [] (0) (0)), (5, AV.mp (some IntKind.i64) IntKind.i64 v5), (12, .v (.int .i64 v12))] [some (Root.mk (33) true [Func.mk h0 h0_1 h0_2 h0_3 h0_4]), some (Root.mk (33) true [Func.mk h1 h1_1 h1_2 h1_3 h1_4])]
def s54_j9 (f : Func) (v5 : List (Value × Int)) (v12 : Int) (v13 : Int) (h0 : ByteArray) (h0_1 : Bool) (h0_2 : List Int) (h0_3 : Int) (h0_4 : List Block) (h1 : ByteArray) (h1_1 : Bool) (h1_2 : List Int) (h1_3 : Int) (h1_4 : List Block) : St Ty := St.mk [(2, .ptr (0) [] (0) (0)), (3, .ptr (1) [] (0) (0)), (5, AV.mp (some IntKind.i64) IntKind.i64 v5), (12, .v (.int .i64 v12)), (13, .v (.int .i64 v13))] [some (Root.mk (33) true [Func.mk h0 h0_1 h0_2 h0_3 h0_4]), some (Root.mk (33) true [Func.mk h1 h1_1 h1_2 h1_3 h1_4])]
theorem e54 (J f) : run tb C54 U54 J (R54 f) 4096 [.code b54] ⟨slotsA (a54 f) 0 0, heapA (a54 f)⟩ =
 if okF (Func.mk f.name f.out f.params f.result f.blocks) then
 J k54_l0 (s54_l0 f ((↑f.params.length : Int)) ([]) (1) ByteArray.empty false ([]) 0 ([]) f.name f.out f.params f.result f.blocks)
 else none := by kernel_rfl
theorem e54_l0 (J f v4 v5 v6 h0 h0_1 h0_2 h0_3 h0_4 h1 h1_1 h1_2 h1_3 h1_4) : run tb C54 U54 J (R54 f) 4096 k54_l0 (s54_l0 f v4 v5 v6 h0 h0_1 h0_2 h0_3 h0_4 h1 h1_1 h1_2 h1_3 h1_4) =
 if decide (v6 ≤ v4) = true then
 J k54_l0 (s54_l0 f v4 (mput v5 (.int IntKind.i64 v6) v6) (IntKind.i64.wrap (v6 + 1)) h0 h0_1 h0_2 h0_3 h0_4 h1 h1_1 h1_2 h1_3 h1_4)
 else
 J k54_j0 (s54_j0 f v4 v5 h0 h0_1 h0_2 h0_3 h0_4 h1 h1_1 h1_2 h1_3 h1_4) := by kernel_rfl
theorem e54_j0 (J f v4 v5 h0 h0_1 h0_2 h0_3 h0_4 h1 h1_1 h1_2 h1_3 h1_4) : run tb C54 U54 J (R54 f) 4096 k54_j0 (s54_j0 f v4 v5 h0 h0_1 h0_2 h0_3 h0_4 h1 h1_1 h1_2 h1_3 h1_4) =
 J k54_l2 (s54_l2 f v4 v5 0 h0 h0_1 h0_2 h0_3 h0_4 h1 h1_1 h1_2 h1_3 h1_4) := by kernel_rfl
theorem e54_l2 (J f v4 v5 v7 h0 h0_1 h0_2 h0_3 h0_4 h1 h1_1 h1_2 h1_3 h1_4) : run tb C54 U54 J (R54 f) 4096 k54_l2 (s54_l2 f v4 v5 v7 h0 h0_1 h0_2 h0_3 h0_4 h1 h1_1 h1_2 h1_3 h1_4) =
 if decide (v7 < (↑h1_4.length : Int)) = true then
 J k54_l4 (s54_l4 f v4 v5 v7 0 h0 h0_1 h0_2 h0_3 h0_4 h1 h1_1 h1_2 h1_3 h1_4)
 else
 J k54_j2 (s54_j2 f v5 h0 h0_1 h0_2 h0_3 h0_4 h1 h1_1 h1_2 h1_3 h1_4) := by kernel_rfl
theorem e54_l4 (J f v4 v5 v7 v8 h0 h0_1 h0_2 h0_3 h0_4 h1 h1_1 h1_2 h1_3 h1_4) : run tb C54 U54 J (R54 f) 4096 k54_l4 (s54_l4 f v4 v5 v7 v8 h0 h0_1 h0_2 h0_3 h0_4 h1 h1_1 h1_2 h1_3 h1_4) =
 if 0 ≤ v7 then
 if v7 < (↑h1_4.length : Int) then
 if decide (v8 < (↑(h1_4.getD (0 + v7.toNat) (Block.mk [])).ins.length : Int)) = true then
 if 0 ≤ v7 then
 if v7 < (↑h1_4.length : Int) then
 if 0 ≤ v8 then
 if v8 < (↑(h1_4.getD (0 + v7.toNat) (Block.mk [])).ins.length : Int) then
 if ((rdI h1_4 (0 + v7.toNat) (0 + v8.toNat)).op == 26) = true then
 if 1 = 1 ∧ [] ++ [(0, 0 + 4)] ++ [(0 + v7.toNat, 0 + 0)] = [] ++ [(0, 0 + 4)] ++ [(0 + v7.toNat, 0 + 0)] ∧ 0 + v8.toNat = 0 + v8.toNat then
 if (rdI h1_4 (0 + v7.toNat) (0 + v8.toNat)).args.length ≤ 1000 ∧ (rdI h1_4 (0 + v7.toNat) (0 + v8.toNat)).into.length ≤ 1000 then
 if ((rdI (wrI h1_4 (0 + v7.toNat) (0 + v8.toNat) (Ins.mk (rdI h1_4 (0 + v7.toNat) (0 + v8.toNat)).op (rdI h1_4 (0 + v7.toNat) (0 + v8.toNat)).type_ (rdI h1_4 (0 + v7.toNat) (0 + v8.toNat)).to_ (rdI h1_4 (0 + v7.toNat) (0 + v8.toNat)).sym_ (rdI h1_4 (0 + v7.toNat) (0 + v8.toNat)).num (riseG (rdI h1_4 (0 + v7.toNat) (0 + v8.toNat)).args (rdI h1_4 (0 + v7.toNat) (0 + v8.toNat)).into).fst (riseG (rdI h1_4 (0 + v7.toNat) (0 + v8.toNat)).args (rdI h1_4 (0 + v7.toNat) (0 + v8.toNat)).into).snd)) (0 + v7.toNat) (0 + v8.toNat)).type_ == 0) = true then
 J k54_j5 (s54_j5 f v4 v5 v7 v8 h0 h0_1 h0_2 h0_3 h0_4 h1 h1_1 h1_2 h1_3 (wrI (wrI h1_4 (0 + v7.toNat) (0 + v8.toNat) (Ins.mk (rdI h1_4 (0 + v7.toNat) (0 + v8.toNat)).op (rdI h1_4 (0 + v7.toNat) (0 + v8.toNat)).type_ (rdI h1_4 (0 + v7.toNat) (0 + v8.toNat)).to_ (rdI h1_4 (0 + v7.toNat) (0 + v8.toNat)).sym_ (rdI h1_4 (0 + v7.toNat) (0 + v8.toNat)).num (riseG (rdI h1_4 (0 + v7.toNat) (0 + v8.toNat)).args (rdI h1_4 (0 + v7.toNat) (0 + v8.toNat)).into).fst (riseG (rdI h1_4 (0 + v7.toNat) (0 + v8.toNat)).args (rdI h1_4 (0 + v7.toNat) (0 + v8.toNat)).into).snd)) (0 + v7.toNat) (0 + v8.toNat) (Ins.mk (rdI (wrI h1_4 (0 + v7.toNat) (0 + v8.toNat) (Ins.mk (rdI h1_4 (0 + v7.toNat) (0 + v8.toNat)).op (rdI h1_4 (0 + v7.toNat) (0 + v8.toNat)).type_ (rdI h1_4 (0 + v7.toNat) (0 + v8.toNat)).to_ (rdI h1_4 (0 + v7.toNat) (0 + v8.toNat)).sym_ (rdI h1_4 (0 + v7.toNat) (0 + v8.toNat)).num (riseG (rdI h1_4 (0 + v7.toNat) (0 + v8.toNat)).args (rdI h1_4 (0 + v7.toNat) (0 + v8.toNat)).into).fst (riseG (rdI h1_4 (0 + v7.toNat) (0 + v8.toNat)).args (rdI h1_4 (0 + v7.toNat) (0 + v8.toNat)).into).snd)) (0 + v7.toNat) (0 + v8.toNat)).op (rdI (wrI h1_4 (0 + v7.toNat) (0 + v8.toNat) (Ins.mk (rdI h1_4 (0 + v7.toNat) (0 + v8.toNat)).op (rdI h1_4 (0 + v7.toNat) (0 + v8.toNat)).type_ (rdI h1_4 (0 + v7.toNat) (0 + v8.toNat)).to_ (rdI h1_4 (0 + v7.toNat) (0 + v8.toNat)).sym_ (rdI h1_4 (0 + v7.toNat) (0 + v8.toNat)).num (riseG (rdI h1_4 (0 + v7.toNat) (0 + v8.toNat)).args (rdI h1_4 (0 + v7.toNat) (0 + v8.toNat)).into).fst (riseG (rdI h1_4 (0 + v7.toNat) (0 + v8.toNat)).args (rdI h1_4 (0 + v7.toNat) (0 + v8.toNat)).into).snd)) (0 + v7.toNat) (0 + v8.toNat)).type_ 0 (rdI (wrI h1_4 (0 + v7.toNat) (0 + v8.toNat) (Ins.mk (rdI h1_4 (0 + v7.toNat) (0 + v8.toNat)).op (rdI h1_4 (0 + v7.toNat) (0 + v8.toNat)).type_ (rdI h1_4 (0 + v7.toNat) (0 + v8.toNat)).to_ (rdI h1_4 (0 + v7.toNat) (0 + v8.toNat)).sym_ (rdI h1_4 (0 + v7.toNat) (0 + v8.toNat)).num (riseG (rdI h1_4 (0 + v7.toNat) (0 + v8.toNat)).args (rdI h1_4 (0 + v7.toNat) (0 + v8.toNat)).into).fst (riseG (rdI h1_4 (0 + v7.toNat) (0 + v8.toNat)).args (rdI h1_4 (0 + v7.toNat) (0 + v8.toNat)).into).snd)) (0 + v7.toNat) (0 + v8.toNat)).sym_ (rdI (wrI h1_4 (0 + v7.toNat) (0 + v8.toNat) (Ins.mk (rdI h1_4 (0 + v7.toNat) (0 + v8.toNat)).op (rdI h1_4 (0 + v7.toNat) (0 + v8.toNat)).type_ (rdI h1_4 (0 + v7.toNat) (0 + v8.toNat)).to_ (rdI h1_4 (0 + v7.toNat) (0 + v8.toNat)).sym_ (rdI h1_4 (0 + v7.toNat) (0 + v8.toNat)).num (riseG (rdI h1_4 (0 + v7.toNat) (0 + v8.toNat)).args (rdI h1_4 (0 + v7.toNat) (0 + v8.toNat)).into).fst (riseG (rdI h1_4 (0 + v7.toNat) (0 + v8.toNat)).args (rdI h1_4 (0 + v7.toNat) (0 + v8.toNat)).into).snd)) (0 + v7.toNat) (0 + v8.toNat)).num (rdI (wrI h1_4 (0 + v7.toNat) (0 + v8.toNat) (Ins.mk (rdI h1_4 (0 + v7.toNat) (0 + v8.toNat)).op (rdI h1_4 (0 + v7.toNat) (0 + v8.toNat)).type_ (rdI h1_4 (0 + v7.toNat) (0 + v8.toNat)).to_ (rdI h1_4 (0 + v7.toNat) (0 + v8.toNat)).sym_ (rdI h1_4 (0 + v7.toNat) (0 + v8.toNat)).num (riseG (rdI h1_4 (0 + v7.toNat) (0 + v8.toNat)).args (rdI h1_4 (0 + v7.toNat) (0 + v8.toNat)).into).fst (riseG (rdI h1_4 (0 + v7.toNat) (0 + v8.toNat)).args (rdI h1_4 (0 + v7.toNat) (0 + v8.toNat)).into).snd)) (0 + v7.toNat) (0 + v8.toNat)).args (rdI (wrI h1_4 (0 + v7.toNat) (0 + v8.toNat) (Ins.mk (rdI h1_4 (0 + v7.toNat) (0 + v8.toNat)).op (rdI h1_4 (0 + v7.toNat) (0 + v8.toNat)).type_ (rdI h1_4 (0 + v7.toNat) (0 + v8.toNat)).to_ (rdI h1_4 (0 + v7.toNat) (0 + v8.toNat)).sym_ (rdI h1_4 (0 + v7.toNat) (0 + v8.toNat)).num (riseG (rdI h1_4 (0 + v7.toNat) (0 + v8.toNat)).args (rdI h1_4 (0 + v7.toNat) (0 + v8.toNat)).into).fst (riseG (rdI h1_4 (0 + v7.toNat) (0 + v8.toNat)).args (rdI h1_4 (0 + v7.toNat) (0 + v8.toNat)).into).snd)) (0 + v7.toNat) (0 + v8.toNat)).into)))
 else
 if (!match mget v5 (.int IntKind.i64 (rdI (wrI h1_4 (0 + v7.toNat) (0 + v8.toNat) (Ins.mk (rdI h1_4 (0 + v7.toNat) (0 + v8.toNat)).op (rdI h1_4 (0 + v7.toNat) (0 + v8.toNat)).type_ (rdI h1_4 (0 + v7.toNat) (0 + v8.toNat)).to_ (rdI h1_4 (0 + v7.toNat) (0 + v8.toNat)).sym_ (rdI h1_4 (0 + v7.toNat) (0 + v8.toNat)).num (riseG (rdI h1_4 (0 + v7.toNat) (0 + v8.toNat)).args (rdI h1_4 (0 + v7.toNat) (0 + v8.toNat)).into).fst (riseG (rdI h1_4 (0 + v7.toNat) (0 + v8.toNat)).args (rdI h1_4 (0 + v7.toNat) (0 + v8.toNat)).into).snd)) (0 + v7.toNat) (0 + v8.toNat)).to_) with | some val => true | none => false) = true then
 J k54_j5 (s54_j5 f (IntKind.i64.wrap (v4 + 1)) (mput v5 (.int IntKind.i64 (rdI (wrI h1_4 (0 + v7.toNat) (0 + v8.toNat) (Ins.mk (rdI h1_4 (0 + v7.toNat) (0 + v8.toNat)).op (rdI h1_4 (0 + v7.toNat) (0 + v8.toNat)).type_ (rdI h1_4 (0 + v7.toNat) (0 + v8.toNat)).to_ (rdI h1_4 (0 + v7.toNat) (0 + v8.toNat)).sym_ (rdI h1_4 (0 + v7.toNat) (0 + v8.toNat)).num (riseG (rdI h1_4 (0 + v7.toNat) (0 + v8.toNat)).args (rdI h1_4 (0 + v7.toNat) (0 + v8.toNat)).into).fst (riseG (rdI h1_4 (0 + v7.toNat) (0 + v8.toNat)).args (rdI h1_4 (0 + v7.toNat) (0 + v8.toNat)).into).snd)) (0 + v7.toNat) (0 + v8.toNat)).to_) (IntKind.i64.wrap (v4 + 1))) v7 v8 h0 h0_1 h0_2 h0_3 h0_4 h1 h1_1 h1_2 h1_3 (wrI (wrI h1_4 (0 + v7.toNat) (0 + v8.toNat) (Ins.mk (rdI h1_4 (0 + v7.toNat) (0 + v8.toNat)).op (rdI h1_4 (0 + v7.toNat) (0 + v8.toNat)).type_ (rdI h1_4 (0 + v7.toNat) (0 + v8.toNat)).to_ (rdI h1_4 (0 + v7.toNat) (0 + v8.toNat)).sym_ (rdI h1_4 (0 + v7.toNat) (0 + v8.toNat)).num (riseG (rdI h1_4 (0 + v7.toNat) (0 + v8.toNat)).args (rdI h1_4 (0 + v7.toNat) (0 + v8.toNat)).into).fst (riseG (rdI h1_4 (0 + v7.toNat) (0 + v8.toNat)).args (rdI h1_4 (0 + v7.toNat) (0 + v8.toNat)).into).snd)) (0 + v7.toNat) (0 + v8.toNat) (Ins.mk (rdI (wrI h1_4 (0 + v7.toNat) (0 + v8.toNat) (Ins.mk (rdI h1_4 (0 + v7.toNat) (0 + v8.toNat)).op (rdI h1_4 (0 + v7.toNat) (0 + v8.toNat)).type_ (rdI h1_4 (0 + v7.toNat) (0 + v8.toNat)).to_ (rdI h1_4 (0 + v7.toNat) (0 + v8.toNat)).sym_ (rdI h1_4 (0 + v7.toNat) (0 + v8.toNat)).num (riseG (rdI h1_4 (0 + v7.toNat) (0 + v8.toNat)).args (rdI h1_4 (0 + v7.toNat) (0 + v8.toNat)).into).fst (riseG (rdI h1_4 (0 + v7.toNat) (0 + v8.toNat)).args (rdI h1_4 (0 + v7.toNat) (0 + v8.toNat)).into).snd)) (0 + v7.toNat) (0 + v8.toNat)).op (rdI (wrI h1_4 (0 + v7.toNat) (0 + v8.toNat) (Ins.mk (rdI h1_4 (0 + v7.toNat) (0 + v8.toNat)).op (rdI h1_4 (0 + v7.toNat) (0 + v8.toNat)).type_ (rdI h1_4 (0 + v7.toNat) (0 + v8.toNat)).to_ (rdI h1_4 (0 + v7.toNat) (0 + v8.toNat)).sym_ (rdI h1_4 (0 + v7.toNat) (0 + v8.toNat)).num (riseG (rdI h1_4 (0 + v7.toNat) (0 + v8.toNat)).args (rdI h1_4 (0 + v7.toNat) (0 + v8.toNat)).into).fst (riseG (rdI h1_4 (0 + v7.toNat) (0 + v8.toNat)).args (rdI h1_4 (0 + v7.toNat) (0 + v8.toNat)).into).snd)) (0 + v7.toNat) (0 + v8.toNat)).type_ (IntKind.i64.wrap (v4 + 1)) (rdI (wrI h1_4 (0 + v7.toNat) (0 + v8.toNat) (Ins.mk (rdI h1_4 (0 + v7.toNat) (0 + v8.toNat)).op (rdI h1_4 (0 + v7.toNat) (0 + v8.toNat)).type_ (rdI h1_4 (0 + v7.toNat) (0 + v8.toNat)).to_ (rdI h1_4 (0 + v7.toNat) (0 + v8.toNat)).sym_ (rdI h1_4 (0 + v7.toNat) (0 + v8.toNat)).num (riseG (rdI h1_4 (0 + v7.toNat) (0 + v8.toNat)).args (rdI h1_4 (0 + v7.toNat) (0 + v8.toNat)).into).fst (riseG (rdI h1_4 (0 + v7.toNat) (0 + v8.toNat)).args (rdI h1_4 (0 + v7.toNat) (0 + v8.toNat)).into).snd)) (0 + v7.toNat) (0 + v8.toNat)).sym_ (rdI (wrI h1_4 (0 + v7.toNat) (0 + v8.toNat) (Ins.mk (rdI h1_4 (0 + v7.toNat) (0 + v8.toNat)).op (rdI h1_4 (0 + v7.toNat) (0 + v8.toNat)).type_ (rdI h1_4 (0 + v7.toNat) (0 + v8.toNat)).to_ (rdI h1_4 (0 + v7.toNat) (0 + v8.toNat)).sym_ (rdI h1_4 (0 + v7.toNat) (0 + v8.toNat)).num (riseG (rdI h1_4 (0 + v7.toNat) (0 + v8.toNat)).args (rdI h1_4 (0 + v7.toNat) (0 + v8.toNat)).into).fst (riseG (rdI h1_4 (0 + v7.toNat) (0 + v8.toNat)).args (rdI h1_4 (0 + v7.toNat) (0 + v8.toNat)).into).snd)) (0 + v7.toNat) (0 + v8.toNat)).num (rdI (wrI h1_4 (0 + v7.toNat) (0 + v8.toNat) (Ins.mk (rdI h1_4 (0 + v7.toNat) (0 + v8.toNat)).op (rdI h1_4 (0 + v7.toNat) (0 + v8.toNat)).type_ (rdI h1_4 (0 + v7.toNat) (0 + v8.toNat)).to_ (rdI h1_4 (0 + v7.toNat) (0 + v8.toNat)).sym_ (rdI h1_4 (0 + v7.toNat) (0 + v8.toNat)).num (riseG (rdI h1_4 (0 + v7.toNat) (0 + v8.toNat)).args (rdI h1_4 (0 + v7.toNat) (0 + v8.toNat)).into).fst (riseG (rdI h1_4 (0 + v7.toNat) (0 + v8.toNat)).args (rdI h1_4 (0 + v7.toNat) (0 + v8.toNat)).into).snd)) (0 + v7.toNat) (0 + v8.toNat)).args (rdI (wrI h1_4 (0 + v7.toNat) (0 + v8.toNat) (Ins.mk (rdI h1_4 (0 + v7.toNat) (0 + v8.toNat)).op (rdI h1_4 (0 + v7.toNat) (0 + v8.toNat)).type_ (rdI h1_4 (0 + v7.toNat) (0 + v8.toNat)).to_ (rdI h1_4 (0 + v7.toNat) (0 + v8.toNat)).sym_ (rdI h1_4 (0 + v7.toNat) (0 + v8.toNat)).num (riseG (rdI h1_4 (0 + v7.toNat) (0 + v8.toNat)).args (rdI h1_4 (0 + v7.toNat) (0 + v8.toNat)).into).fst (riseG (rdI h1_4 (0 + v7.toNat) (0 + v8.toNat)).args (rdI h1_4 (0 + v7.toNat) (0 + v8.toNat)).into).snd)) (0 + v7.toNat) (0 + v8.toNat)).into)))
 else
 J k54_j5 (s54_j5 f (IntKind.i64.wrap (v4 + 1)) v5 v7 v8 h0 h0_1 h0_2 h0_3 h0_4 h1 h1_1 h1_2 h1_3 (wrI (wrI h1_4 (0 + v7.toNat) (0 + v8.toNat) (Ins.mk (rdI h1_4 (0 + v7.toNat) (0 + v8.toNat)).op (rdI h1_4 (0 + v7.toNat) (0 + v8.toNat)).type_ (rdI h1_4 (0 + v7.toNat) (0 + v8.toNat)).to_ (rdI h1_4 (0 + v7.toNat) (0 + v8.toNat)).sym_ (rdI h1_4 (0 + v7.toNat) (0 + v8.toNat)).num (riseG (rdI h1_4 (0 + v7.toNat) (0 + v8.toNat)).args (rdI h1_4 (0 + v7.toNat) (0 + v8.toNat)).into).fst (riseG (rdI h1_4 (0 + v7.toNat) (0 + v8.toNat)).args (rdI h1_4 (0 + v7.toNat) (0 + v8.toNat)).into).snd)) (0 + v7.toNat) (0 + v8.toNat) (Ins.mk (rdI (wrI h1_4 (0 + v7.toNat) (0 + v8.toNat) (Ins.mk (rdI h1_4 (0 + v7.toNat) (0 + v8.toNat)).op (rdI h1_4 (0 + v7.toNat) (0 + v8.toNat)).type_ (rdI h1_4 (0 + v7.toNat) (0 + v8.toNat)).to_ (rdI h1_4 (0 + v7.toNat) (0 + v8.toNat)).sym_ (rdI h1_4 (0 + v7.toNat) (0 + v8.toNat)).num (riseG (rdI h1_4 (0 + v7.toNat) (0 + v8.toNat)).args (rdI h1_4 (0 + v7.toNat) (0 + v8.toNat)).into).fst (riseG (rdI h1_4 (0 + v7.toNat) (0 + v8.toNat)).args (rdI h1_4 (0 + v7.toNat) (0 + v8.toNat)).into).snd)) (0 + v7.toNat) (0 + v8.toNat)).op (rdI (wrI h1_4 (0 + v7.toNat) (0 + v8.toNat) (Ins.mk (rdI h1_4 (0 + v7.toNat) (0 + v8.toNat)).op (rdI h1_4 (0 + v7.toNat) (0 + v8.toNat)).type_ (rdI h1_4 (0 + v7.toNat) (0 + v8.toNat)).to_ (rdI h1_4 (0 + v7.toNat) (0 + v8.toNat)).sym_ (rdI h1_4 (0 + v7.toNat) (0 + v8.toNat)).num (riseG (rdI h1_4 (0 + v7.toNat) (0 + v8.toNat)).args (rdI h1_4 (0 + v7.toNat) (0 + v8.toNat)).into).fst (riseG (rdI h1_4 (0 + v7.toNat) (0 + v8.toNat)).args (rdI h1_4 (0 + v7.toNat) (0 + v8.toNat)).into).snd)) (0 + v7.toNat) (0 + v8.toNat)).type_ (IntKind.i64.wrap (v4 + 1)) (rdI (wrI h1_4 (0 + v7.toNat) (0 + v8.toNat) (Ins.mk (rdI h1_4 (0 + v7.toNat) (0 + v8.toNat)).op (rdI h1_4 (0 + v7.toNat) (0 + v8.toNat)).type_ (rdI h1_4 (0 + v7.toNat) (0 + v8.toNat)).to_ (rdI h1_4 (0 + v7.toNat) (0 + v8.toNat)).sym_ (rdI h1_4 (0 + v7.toNat) (0 + v8.toNat)).num (riseG (rdI h1_4 (0 + v7.toNat) (0 + v8.toNat)).args (rdI h1_4 (0 + v7.toNat) (0 + v8.toNat)).into).fst (riseG (rdI h1_4 (0 + v7.toNat) (0 + v8.toNat)).args (rdI h1_4 (0 + v7.toNat) (0 + v8.toNat)).into).snd)) (0 + v7.toNat) (0 + v8.toNat)).sym_ (rdI (wrI h1_4 (0 + v7.toNat) (0 + v8.toNat) (Ins.mk (rdI h1_4 (0 + v7.toNat) (0 + v8.toNat)).op (rdI h1_4 (0 + v7.toNat) (0 + v8.toNat)).type_ (rdI h1_4 (0 + v7.toNat) (0 + v8.toNat)).to_ (rdI h1_4 (0 + v7.toNat) (0 + v8.toNat)).sym_ (rdI h1_4 (0 + v7.toNat) (0 + v8.toNat)).num (riseG (rdI h1_4 (0 + v7.toNat) (0 + v8.toNat)).args (rdI h1_4 (0 + v7.toNat) (0 + v8.toNat)).into).fst (riseG (rdI h1_4 (0 + v7.toNat) (0 + v8.toNat)).args (rdI h1_4 (0 + v7.toNat) (0 + v8.toNat)).into).snd)) (0 + v7.toNat) (0 + v8.toNat)).num (rdI (wrI h1_4 (0 + v7.toNat) (0 + v8.toNat) (Ins.mk (rdI h1_4 (0 + v7.toNat) (0 + v8.toNat)).op (rdI h1_4 (0 + v7.toNat) (0 + v8.toNat)).type_ (rdI h1_4 (0 + v7.toNat) (0 + v8.toNat)).to_ (rdI h1_4 (0 + v7.toNat) (0 + v8.toNat)).sym_ (rdI h1_4 (0 + v7.toNat) (0 + v8.toNat)).num (riseG (rdI h1_4 (0 + v7.toNat) (0 + v8.toNat)).args (rdI h1_4 (0 + v7.toNat) (0 + v8.toNat)).into).fst (riseG (rdI h1_4 (0 + v7.toNat) (0 + v8.toNat)).args (rdI h1_4 (0 + v7.toNat) (0 + v8.toNat)).into).snd)) (0 + v7.toNat) (0 + v8.toNat)).args (rdI (wrI h1_4 (0 + v7.toNat) (0 + v8.toNat) (Ins.mk (rdI h1_4 (0 + v7.toNat) (0 + v8.toNat)).op (rdI h1_4 (0 + v7.toNat) (0 + v8.toNat)).type_ (rdI h1_4 (0 + v7.toNat) (0 + v8.toNat)).to_ (rdI h1_4 (0 + v7.toNat) (0 + v8.toNat)).sym_ (rdI h1_4 (0 + v7.toNat) (0 + v8.toNat)).num (riseG (rdI h1_4 (0 + v7.toNat) (0 + v8.toNat)).args (rdI h1_4 (0 + v7.toNat) (0 + v8.toNat)).into).fst (riseG (rdI h1_4 (0 + v7.toNat) (0 + v8.toNat)).args (rdI h1_4 (0 + v7.toNat) (0 + v8.toNat)).into).snd)) (0 + v7.toNat) (0 + v8.toNat)).into)))
 else none
 else none
 else
 if ((rdI h1_4 (0 + v7.toNat) (0 + v8.toNat)).type_ == 0) = true then
 J k54_j5 (s54_j5 f v4 v5 v7 v8 h0 h0_1 h0_2 h0_3 h0_4 h1 h1_1 h1_2 h1_3 (wrI h1_4 (0 + v7.toNat) (0 + v8.toNat) (Ins.mk (rdI h1_4 (0 + v7.toNat) (0 + v8.toNat)).op (rdI h1_4 (0 + v7.toNat) (0 + v8.toNat)).type_ 0 (rdI h1_4 (0 + v7.toNat) (0 + v8.toNat)).sym_ (rdI h1_4 (0 + v7.toNat) (0 + v8.toNat)).num (rdI h1_4 (0 + v7.toNat) (0 + v8.toNat)).args (rdI h1_4 (0 + v7.toNat) (0 + v8.toNat)).into)))
 else
 if (!match mget v5 (.int IntKind.i64 (rdI h1_4 (0 + v7.toNat) (0 + v8.toNat)).to_) with | some val => true | none => false) = true then
 J k54_j5 (s54_j5 f (IntKind.i64.wrap (v4 + 1)) (mput v5 (.int IntKind.i64 (rdI h1_4 (0 + v7.toNat) (0 + v8.toNat)).to_) (IntKind.i64.wrap (v4 + 1))) v7 v8 h0 h0_1 h0_2 h0_3 h0_4 h1 h1_1 h1_2 h1_3 (wrI h1_4 (0 + v7.toNat) (0 + v8.toNat) (Ins.mk (rdI h1_4 (0 + v7.toNat) (0 + v8.toNat)).op (rdI h1_4 (0 + v7.toNat) (0 + v8.toNat)).type_ (IntKind.i64.wrap (v4 + 1)) (rdI h1_4 (0 + v7.toNat) (0 + v8.toNat)).sym_ (rdI h1_4 (0 + v7.toNat) (0 + v8.toNat)).num (rdI h1_4 (0 + v7.toNat) (0 + v8.toNat)).args (rdI h1_4 (0 + v7.toNat) (0 + v8.toNat)).into)))
 else
 J k54_j5 (s54_j5 f (IntKind.i64.wrap (v4 + 1)) v5 v7 v8 h0 h0_1 h0_2 h0_3 h0_4 h1 h1_1 h1_2 h1_3 (wrI h1_4 (0 + v7.toNat) (0 + v8.toNat) (Ins.mk (rdI h1_4 (0 + v7.toNat) (0 + v8.toNat)).op (rdI h1_4 (0 + v7.toNat) (0 + v8.toNat)).type_ (IntKind.i64.wrap (v4 + 1)) (rdI h1_4 (0 + v7.toNat) (0 + v8.toNat)).sym_ (rdI h1_4 (0 + v7.toNat) (0 + v8.toNat)).num (rdI h1_4 (0 + v7.toNat) (0 + v8.toNat)).args (rdI h1_4 (0 + v7.toNat) (0 + v8.toNat)).into)))
 else none
 else none
 else none
 else none
 else
 J k54_j4 (s54_j4 f v4 v5 v7 h0 h0_1 h0_2 h0_3 h0_4 h1 h1_1 h1_2 h1_3 h1_4)
 else none
 else none := by kernel_rfl
theorem e54_j2 (J f v5 h0 h0_1 h0_2 h0_3 h0_4 h1 h1_1 h1_2 h1_3 h1_4) : run tb C54 U54 J (R54 f) 4096 k54_j2 (s54_j2 f v5 h0 h0_1 h0_2 h0_3 h0_4 h1 h1_1 h1_2 h1_3 h1_4) =
 J k54_l6 (s54_l6 f v5 0 h0 h0_1 h0_2 h0_3 h0_4 h1 h1_1 h1_2 h1_3 h1_4) := by kernel_rfl
theorem e54_j5 (J f v4 v5 v7 v8 h0 h0_1 h0_2 h0_3 h0_4 h1 h1_1 h1_2 h1_3 h1_4) : run tb C54 U54 J (R54 f) 4096 k54_j5 (s54_j5 f v4 v5 v7 v8 h0 h0_1 h0_2 h0_3 h0_4 h1 h1_1 h1_2 h1_3 h1_4) =
 J k54_l4 (s54_l4 f v4 v5 v7 (IntKind.i64.wrap (v8 + 1)) h0 h0_1 h0_2 h0_3 h0_4 h1 h1_1 h1_2 h1_3 h1_4) := by kernel_rfl
theorem e54_j4 (J f v4 v5 v7 h0 h0_1 h0_2 h0_3 h0_4 h1 h1_1 h1_2 h1_3 h1_4) : run tb C54 U54 J (R54 f) 4096 k54_j4 (s54_j4 f v4 v5 v7 h0 h0_1 h0_2 h0_3 h0_4 h1 h1_1 h1_2 h1_3 h1_4) =
 J k54_j3 (s54_j3 f v4 v5 v7 h0 h0_1 h0_2 h0_3 h0_4 h1 h1_1 h1_2 h1_3 h1_4) := by kernel_rfl
theorem e54_l6 (J f v5 v12 h0 h0_1 h0_2 h0_3 h0_4 h1 h1_1 h1_2 h1_3 h1_4) : run tb C54 U54 J (R54 f) 4096 k54_l6 (s54_l6 f v5 v12 h0 h0_1 h0_2 h0_3 h0_4 h1 h1_1 h1_2 h1_3 h1_4) =
 if decide (v12 < (↑h1_4.length : Int)) = true then
 J k54_l8 (s54_l8 f v5 v12 0 h0 h0_1 h0_2 h0_3 h0_4 h1 h1_1 h1_2 h1_3 h1_4)
 else
 J k54_j6 (s54_j6 f h0 h0_1 h0_2 h0_3 h0_4 h1 h1_1 h1_2 h1_3 h1_4) := by kernel_rfl
theorem e54_j3 (J f v4 v5 v7 h0 h0_1 h0_2 h0_3 h0_4 h1 h1_1 h1_2 h1_3 h1_4) : run tb C54 U54 J (R54 f) 4096 k54_j3 (s54_j3 f v4 v5 v7 h0 h0_1 h0_2 h0_3 h0_4 h1 h1_1 h1_2 h1_3 h1_4) =
 J k54_l2 (s54_l2 f v4 v5 (IntKind.i64.wrap (v7 + 1)) h0 h0_1 h0_2 h0_3 h0_4 h1 h1_1 h1_2 h1_3 h1_4) := by kernel_rfl
theorem e54_l8 (J f v5 v12 v13 h0 h0_1 h0_2 h0_3 h0_4 h1 h1_1 h1_2 h1_3 h1_4) : run tb C54 U54 J (R54 f) 4096 k54_l8 (s54_l8 f v5 v12 v13 h0 h0_1 h0_2 h0_3 h0_4 h1 h1_1 h1_2 h1_3 h1_4) =
 if 0 ≤ v12 then
 if v12 < (↑h1_4.length : Int) then
 if decide (v13 < (↑(h1_4.getD (0 + v12.toNat) (Block.mk [])).ins.length : Int)) = true then
 if 0 ≤ v12 then
 if v12 < (↑h1_4.length : Int) then
 if 0 ≤ v13 then
 if v13 < (↑(h1_4.getD (0 + v12.toNat) (Block.mk [])).ins.length : Int) then
 J k54_l10 (s54_l10 f v5 v12 v13 (0 + v12.toNat) (0 + v13.toNat) 0 h0 h0_1 h0_2 h0_3 h0_4 h1 h1_1 h1_2 h1_3 h1_4)
 else none
 else none
 else none
 else none
 else
 J k54_j8 (s54_j8 f v5 v12 h0 h0_1 h0_2 h0_3 h0_4 h1 h1_1 h1_2 h1_3 h1_4)
 else none
 else none := by kernel_rfl
theorem e54_j6 (J f h0 h0_1 h0_2 h0_3 h0_4 h1 h1_1 h1_2 h1_3 h1_4) : run tb C54 U54 J (R54 f) 4096 k54_j6 (s54_j6 f h0 h0_1 h0_2 h0_3 h0_4 h1 h1_1 h1_2 h1_3 h1_4) =
 some (.agg [.v (.string h1), .v (.bool h1_1), .sl true 3 h1_2, .v (.int .i64 h1_3), .sl true 44 h1_4], [.dead]) := by kernel_rfl
theorem e54_l10 (J f v5 v12 v13 v14 v14_1 v15 h0 h0_1 h0_2 h0_3 h0_4 h1 h1_1 h1_2 h1_3 h1_4) : run tb C54 U54 J (R54 f) 4096 k54_l10 (s54_l10 f v5 v12 v13 v14 v14_1 v15 h0 h0_1 h0_2 h0_3 h0_4 h1 h1_1 h1_2 h1_3 h1_4) =
 if decide (v15 < (↑(rdI h1_4 v14 v14_1).args.length : Int)) = true then
 if 0 ≤ v15 then
 if v15 < (↑(rdI h1_4 v14 v14_1).args.length : Int) then
 if 0 ≤ v15 then
 if v15 < (↑(rdI h1_4 v14 v14_1).args.length : Int) then
 J k54_l10 (s54_l10 f v5 v12 v13 v14 v14_1 (IntKind.i64.wrap (v15 + 1)) h0 h0_1 h0_2 h0_3 h0_4 h1 h1_1 h1_2 h1_3 (wrI h1_4 v14 v14_1 (Ins.mk (rdI h1_4 v14 v14_1).op (rdI h1_4 v14 v14_1).type_ (rdI h1_4 v14 v14_1).to_ (rdI h1_4 v14 v14_1).sym_ (rdI h1_4 v14 v14_1).num ((rdI h1_4 v14 v14_1).args.set (0 + v15.toNat) (match mget v5 (.int IntKind.i64 ((rdI h1_4 v14 v14_1).args.getD (0 + v15.toNat) 0)) with | some x => x | none => 0)) (rdI h1_4 v14 v14_1).into)))
 else none
 else none
 else none
 else none
 else
 J k54_j10 (s54_j10 f v5 v12 v13 h0 h0_1 h0_2 h0_3 h0_4 h1 h1_1 h1_2 h1_3 h1_4) := by kernel_rfl
theorem e54_j8 (J f v5 v12 h0 h0_1 h0_2 h0_3 h0_4 h1 h1_1 h1_2 h1_3 h1_4) : run tb C54 U54 J (R54 f) 4096 k54_j8 (s54_j8 f v5 v12 h0 h0_1 h0_2 h0_3 h0_4 h1 h1_1 h1_2 h1_3 h1_4) =
 J k54_j7 (s54_j7 f v5 v12 h0 h0_1 h0_2 h0_3 h0_4 h1 h1_1 h1_2 h1_3 h1_4) := by kernel_rfl
theorem e54_j10 (J f v5 v12 v13 h0 h0_1 h0_2 h0_3 h0_4 h1 h1_1 h1_2 h1_3 h1_4) : run tb C54 U54 J (R54 f) 4096 k54_j10 (s54_j10 f v5 v12 v13 h0 h0_1 h0_2 h0_3 h0_4 h1 h1_1 h1_2 h1_3 h1_4) =
 J k54_j9 (s54_j9 f v5 v12 v13 h0 h0_1 h0_2 h0_3 h0_4 h1 h1_1 h1_2 h1_3 h1_4) := by kernel_rfl
theorem e54_j7 (J f v5 v12 h0 h0_1 h0_2 h0_3 h0_4 h1 h1_1 h1_2 h1_3 h1_4) : run tb C54 U54 J (R54 f) 4096 k54_j7 (s54_j7 f v5 v12 h0 h0_1 h0_2 h0_3 h0_4 h1 h1_1 h1_2 h1_3 h1_4) =
 J k54_l6 (s54_l6 f v5 (IntKind.i64.wrap (v12 + 1)) h0 h0_1 h0_2 h0_3 h0_4 h1 h1_1 h1_2 h1_3 h1_4) := by kernel_rfl
theorem e54_j9 (J f v5 v12 v13 h0 h0_1 h0_2 h0_3 h0_4 h1 h1_1 h1_2 h1_3 h1_4) : run tb C54 U54 J (R54 f) 4096 k54_j9 (s54_j9 f v5 v12 v13 h0 h0_1 h0_2 h0_3 h0_4 h1 h1_1 h1_2 h1_3 h1_4) =
 J k54_l8 (s54_l8 f v5 v12 (IntKind.i64.wrap (v13 + 1)) h0 h0_1 h0_2 h0_3 h0_4 h1 h1_1 h1_2 h1_3 h1_4) := by kernel_rfl

theorem in54 : Entered 54 := ⟨Try.f54, b54, by kernel_rfl, by kernel_rfl, by kernel_rfl⟩
theorem fn54 (f : Ev.Func) {res : AV Ty} {outs : List (AV Ty)} (h : Ends C54 U54 (R54 f) [.code b54] ⟨slotsA (a54 f) 0 0, heapA (a54 f)⟩ (some (res, outs))) : CallOk tb Try.prog 54 (a54 f) res outs := by
  obtain ⟨n0, hn⟩ := h
  exact fn_ok (C := C54) (U := U54) (n := 0 + n0) (q := .keep) tbOk good (fun f mu S h => by
    unfold C54 at h
    simp only at h
    split at h
    · cases h; exact ⟨in32, S32_ok⟩
    · cases h; exact ⟨in93, S93_ok⟩
    · cases h) mixed (fn := Try.f54) (body := b54) (by kernel_rfl) (by kernel_rfl) rfl rfl (by show 1 ≤ 142; omega) (hn 0)
section
variable {f : Ev.Func}
abbrev rn0 (f : Ev.Func) (v : Nat) (m : List (Value × Int)) : St Ty := s54_l0 f f.params.length m v ByteArray.empty false [] 0 [] f.name f.out f.params f.result f.blocks
abbrev rn2 (f : Ev.Func) (m : List (Value × Int)) (n A : Nat) (l : List Ev.Block) : St Ty := s54_l2 f n m A ByteArray.empty false [] 0 [] f.name f.out f.params f.result l
abbrev rn4 (f : Ev.Func) (m : List (Value × Int)) (n A k : Nat) (l : List Ev.Block) : St Ty := s54_l4 f n m A k ByteArray.empty false [] 0 [] f.name f.out f.params f.result l
abbrev rn6 (f : Ev.Func) (m : List (Value × Int)) (A : Nat) (l : List Ev.Block) : St Ty := s54_l6 f m A ByteArray.empty false [] 0 [] f.name f.out f.params f.result l
abbrev rn8 (f : Ev.Func) (m : List (Value × Int)) (A k : Nat) (l : List Ev.Block) : St Ty := s54_l8 f m A k ByteArray.empty false [] 0 [] f.name f.out f.params f.result l
abbrev rn10 (f : Ev.Func) (m : List (Value × Int)) (A k j : Nat) (l : List Ev.Block) : St Ty := s54_l10 f m A k A k j ByteArray.empty false [] 0 [] f.name f.out f.params f.result l
theorem NumR.init (hp : f.params.length ≤ 1000) {v : Nat} (hv : v < f.params.length) : Goes C54 U54 (R54 f) k54_l0 (rn0 f (v + 1) (initM v)) k54_l0 (rn0 f (v + 1 + 1) (initM (v + 1))) := .step fun J => by
  unfold rn0
  rw [e54_l0]
  simp (disch := first | omega | assumption | (rw [decide_eq_true_eq]; omega) | (rw [decide_eq_false_iff_not]; omega)) only [↓if_pos, ↓if_neg, if_true, if_false, wrap_up, Int.toNat_natCast, Nat.zero_add]
  rfl
theorem NumR.one {A C : List Ev.Block} {P Q : List Ev.Ins} {i : Ev.Ins} {m : List (Value × Int)} {n : Nat} (hi : okIns i) (hn : n ≤ 2000000) (hP : P.length ≤ 1000) (hA : A.length ≤ 1000) :
    Goes C54 U54 (R54 f) k54_l4 (rn4 f m n A.length P.length (A ++ Block.mk (P ++ i :: Q) :: C)) k54_l4 (rn4 f (map1 m n i) (step1 n i) A.length (P.length + 1) (A ++ Block.mk (P ++ num1 n i :: Q) :: C)) := by
  have a1 : A.length < (A ++ Block.mk (P ++ i :: Q) :: C).length := by simp only [List.length_append, List.length_cons]; omega
  have a2 : P.length < (P ++ i :: Q).length := by simp only [List.length_append, List.length_cons]; omega
  have a3 : ∀ x : Ev.Ins, A.length < (A ++ Block.mk (P ++ x :: Q) :: C).length := fun x => by simp only [List.length_append, List.length_cons]; omega
  have a4 : ∀ x : Ev.Ins, P.length < (P ++ x :: Q).length := fun x => by simp only [List.length_append, List.length_cons]; omega
  have w1 : IntKind.i64.wrap ((n : Int) + 1) = ((n + 1 : Nat) : Int) := wrap_nat rfl (by omega)
  have t4 := hi
  unfold okIns at t4
  have two : ∀ (m' : List (Value × Int)) (n' : Nat) (l' : List Ev.Block), (∀ J : List Item → St Ty → EvR, run tb C54 U54 J (R54 f) 4096 k54_l4 (rn4 f m n A.length P.length (A ++ Block.mk (P ++ i :: Q) :: C)) = J k54_j5 (s54_j5 f n' m' A.length P.length ByteArray.empty false [] 0 [] f.name f.out f.params f.result l')) →
      Goes C54 U54 (R54 f) k54_l4 (rn4 f m n A.length P.length (A ++ Block.mk (P ++ i :: Q) :: C)) k54_l4 (rn4 f m' n' A.length (P.length + 1) l') := fun m' n' l' h => by
    refine Goes.trans (.step h) (.step fun J => ?_)
    rw [e54_j5]
    simp (disch := first | omega | assumption | (rw [decide_eq_true_eq]; omega) | (rw [decide_eq_false_iff_not]; omega)) only [↓if_pos, ↓if_neg, if_true, if_false, wrap_up, Int.toNat_natCast, Nat.zero_add]
    rfl
  by_cases ht : i.type_ = 0
  · have e1 : map1 m n i = m := by unfold map1; rw [if_pos ht]
    have e2 : step1 n i = n := by unfold step1; rw [if_pos ht]
    rw [e1, e2]
    refine two _ _ _ fun J => ?_
    have t1 : (i.type_ == (0 : Int)) = true := by simp [ht]
    unfold rn4
    rw [e54_l4]
    simp only [Int.toNat_natCast, Nat.zero_add, rdI_mid, wrI_mid, blk_mid]
    by_cases hp : i.op = 26
    · have t2 : (i.op == (26 : Int)) = true := by simp [hp]
      simp (disch := first | omega | assumption | (rw [decide_eq_true_eq]; omega) | (rw [decide_eq_false_iff_not]; omega)) only [↓if_pos, ↓if_neg, if_true, if_false, wrap_up, Int.toNat_natCast, Nat.zero_add, t1, t2, and_self]
      unfold num1
      rw [risI_G hp, if_pos ht]
    · have t2 : (i.op == (26 : Int)) = false := by simp [hp]
      simp (disch := first | omega | assumption | (rw [decide_eq_true_eq]; omega) | (rw [decide_eq_false_iff_not]; omega)) only [↓if_pos, ↓if_neg, if_true, if_false, wrap_up, Int.toNat_natCast, Nat.zero_add, t1, t2, Bool.false_eq_true]
      unfold num1 risI
      rw [if_neg (fun h => hp h.1), if_pos ht]
  · have e2 : step1 n i = n + 1 := by unfold step1; rw [if_neg ht]
    rw [e2]
    refine two _ _ _ fun J => ?_
    have t1 : (i.type_ == (0 : Int)) = false := by simp [ht]
    have fin : ∀ (x y : EvR), (mget m (key i.to_) = none → x = J k54_j5 (s54_j5 f (n + 1 : Nat) (mput m (key i.to_) ((n + 1 : Nat) : Int)) A.length P.length ByteArray.empty false [] 0 [] f.name f.out f.params f.result (A ++ Block.mk (P ++ num1 n i :: Q) :: C))) →
        ((mget m (key i.to_)).isSome → y = J k54_j5 (s54_j5 f (n + 1 : Nat) m A.length P.length ByteArray.empty false [] 0 [] f.name f.out f.params f.result (A ++ Block.mk (P ++ num1 n i :: Q) :: C))) →
        (if (!match mget m (key i.to_) with | some val => true | none => false) = true then x else y) = J k54_j5 (s54_j5 f (n + 1 : Nat) (map1 m n i) A.length P.length ByteArray.empty false [] 0 [] f.name f.out f.params f.result (A ++ Block.mk (P ++ num1 n i :: Q) :: C)) := fun x y hx hy => by
      unfold map1
      rw [if_neg ht]
      cases hk : mget m (key i.to_) with
      | none => simpa using hx hk
      | some v => simpa using hy (by rw [hk]; rfl)
    unfold rn4
    rw [e54_l4]
    simp only [Int.toNat_natCast, Nat.zero_add, rdI_mid, wrI_mid, blk_mid, w1]
    by_cases hp : i.op = 26
    · have t2 : (i.op == (26 : Int)) = true := by simp [hp]
      simp (disch := first | omega | assumption | (rw [decide_eq_true_eq]; omega) | (rw [decide_eq_false_iff_not]; omega)) only [↓if_pos, ↓if_neg, if_true, if_false, wrap_up, Int.toNat_natCast, Nat.zero_add, t1, t2, and_self, Bool.false_eq_true]
      refine fin _ _ (fun _ => ?_) fun _ => ?_
      all_goals
        unfold num1
        rw [risI_G hp, if_neg ht] <;> rfl
    · have t2 : (i.op == (26 : Int)) = false := by simp [hp]
      simp (disch := first | omega | assumption | (rw [decide_eq_true_eq]; omega) | (rw [decide_eq_false_iff_not]; omega)) only [↓if_pos, ↓if_neg, if_true, if_false, wrap_up, Int.toNat_natCast, Nat.zero_add, t1, t2, Bool.false_eq_true]
      refine fin _ _ (fun _ => ?_) fun _ => ?_
      all_goals
        unfold num1 risI
        rw [if_neg (fun h => hp h.1), if_neg ht] <;> rfl
theorem NumR.row {A C : List Ev.Block} (hA : A.length ≤ 1000) : ∀ (Q P : List Ev.Ins) (m : List (Value × Int)) (n : Nat), P.length + Q.length ≤ 1000 → (∀ i, i ∈ Q → okIns i) → n + Q.length ≤ 2000000 →
    Goes C54 U54 (R54 f) k54_l4 (rn4 f m n A.length P.length (A ++ Block.mk (P ++ Q) :: C)) k54_j4 (s54_j4 f (stepL n Q) (mapL m n Q) A.length ByteArray.empty false [] 0 [] f.name f.out f.params f.result (A ++ Block.mk (P ++ numL n Q) :: C))
  | [], P, m, n, h, _, _ => .step fun J => by
    have a1 : A.length < (A ++ Block.mk (P ++ []) :: C).length := by simp only [List.length_append, List.length_cons]; omega
    unfold rn4
    rw [e54_l4]
    simp only [Int.toNat_natCast, Nat.zero_add, blk_mid]
    simp only [List.append_nil] at a1 ⊢
    simp (disch := first | omega | assumption | (rw [decide_eq_true_eq]; omega) | (rw [decide_eq_false_iff_not]; omega)) only [↓if_pos, ↓if_neg, if_true, if_false, wrap_up, Int.toNat_natCast, Nat.zero_add]
    simp only [numL, mapL, stepL, List.append_nil]
  | i :: Q, P, m, n, h, hq, hn => by
    simp only [List.length_cons] at h hn
    refine Goes.trans (NumR.one (hq i List.mem_cons_self) (by omega) (by omega) hA) ?_
    have e : ∀ x, A ++ Block.mk (P ++ x :: Q) :: C = A ++ Block.mk ((P ++ [x]) ++ Q) :: C := fun x => by simp
    have hs : step1 n i ≤ n + 1 := by unfold step1; split <;> omega
    have := NumR.row (A := A) (C := C) hA Q (P ++ [num1 n i]) (map1 m n i) (step1 n i) (by simp; omega) (fun x hx => hq x (List.mem_cons_of_mem _ hx)) (by omega)
    rw [e]
    rw [List.length_append, List.length_singleton] at this
    refine Goes.trans this ?_
    simp only [numL, mapL, stepL, List.append_assoc, List.singleton_append]
    exact .refl
theorem NumR.all : ∀ (C A : List Ev.Block) (m : List (Value × Int)) (n : Nat), A.length + C.length ≤ 1000 → (∀ b, b ∈ C → okBl b) → n + szT C ≤ 2000000 →
    Goes C54 U54 (R54 f) k54_l2 (rn2 f m n A.length (A ++ C)) k54_j2 (s54_j2 f (mapB m n C) ByteArray.empty false [] 0 [] f.name f.out f.params f.result (A ++ numB n C))
  | [], A, m, n, h, _, _ => .step fun J => by
    unfold rn2
    rw [e54_l2]
    simp only [List.append_nil]
    simp (disch := first | omega | assumption | (rw [decide_eq_true_eq]; omega) | (rw [decide_eq_false_iff_not]; omega)) only [↓if_pos, ↓if_neg, if_true, if_false, wrap_up, Int.toNat_natCast, Nat.zero_add]
    simp only [mapB, numB, List.append_nil]
  | b :: C, A, m, n, h, hb, hn => by
    simp only [List.length_cons] at h
    have hs : szT (b :: C) = b.ins.length + szT C := by simp [szT]
    have hl := stepL_le b.ins n
    have hb1 := hb b List.mem_cons_self
    refine Goes.trans (k' := k54_l4) (s' := rn4 f m n A.length ([] : List Ev.Ins).length (A ++ Block.mk ([] ++ b.ins) :: C)) (.step fun J => ?_) (Goes.trans (NumR.row (by omega) b.ins [] m n (by have := hb1.1; simp; omega) hb1.2 (by omega)) ?_)
    · have a1 : A.length < (A ++ b :: C).length := by simp only [List.length_append, List.length_cons]; omega
      unfold rn2
      rw [e54_l2]
      simp (disch := first | omega | assumption | (rw [decide_eq_true_eq]; omega) | (rw [decide_eq_false_iff_not]; omega)) only [↓if_pos, ↓if_neg, if_true, if_false, wrap_up, Int.toNat_natCast, Nat.zero_add]
      rfl
    refine Goes.trans (.step fun J => e54_j4 ..) (Goes.trans (.step fun J => e54_j3 ..) ?_)
    have := NumR.all C (A ++ [Block.mk (numL n b.ins)]) (mapL m n b.ins) (stepL n b.ins) (by simp; omega) (fun x hx => hb x (List.mem_cons_of_mem _ hx)) (by omega)
    rw [List.length_append, List.length_singleton] at this
    have w1 : IntKind.i64.wrap ((A.length : Int) + 1) = ((A.length + 1 : Nat) : Int) := wrap_nat rfl (by omega)
    rw [w1]
    simp only [List.append_assoc, List.singleton_append, List.nil_append] at this ⊢
    simp only [numB, mapB, stepB]
    exact this
theorem SubR.one {A C : List Ev.Block} {P Q : List Ev.Ins} {i : Ev.Ins} {X Y : List Int} {v : Int} {m : List (Value × Int)} (hX : X.length ≤ 1000) :
    Goes C54 U54 (R54 f) k54_l10 (rn10 f m A.length P.length X.length (A ++ Block.mk (P ++ withA i (X ++ v :: Y) :: Q) :: C)) k54_l10 (rn10 f m A.length P.length (X.length + 1) (A ++ Block.mk (P ++ withA i (X ++ subR m v :: Y) :: Q) :: C)) := .step fun J => by
  have a1 : X.length < (X ++ v :: Y).length := by simp only [List.length_append, List.length_cons]; omega
  have g1 : (X ++ v :: Y).getD X.length 0 = v := by simp [List.getD_eq_getElem?_getD]
  have g2 : ∀ x, (X ++ v :: Y).set X.length x = X ++ x :: Y := fun x => by simp
  unfold rn10
  rw [e54_l10]
  simp only [Int.toNat_natCast, Nat.zero_add, rdI_mid, wrI_mid, blk_mid, withA, g1, g2]
  simp (disch := first | omega | assumption | (rw [decide_eq_true_eq]; omega) | (rw [decide_eq_false_iff_not]; omega)) only [↓if_pos, ↓if_neg, if_true, if_false, wrap_up, Int.toNat_natCast, Nat.zero_add]
  unfold subR
  rw [← getD_match]
  rfl
theorem SubR.args {A C : List Ev.Block} {P Q : List Ev.Ins} {i : Ev.Ins} {m : List (Value × Int)} : ∀ (Y X : List Int), X.length + Y.length ≤ 1000 →
    Goes C54 U54 (R54 f) k54_l10 (rn10 f m A.length P.length X.length (A ++ Block.mk (P ++ withA i (X ++ Y) :: Q) :: C)) k54_j10 (s54_j10 f m A.length P.length ByteArray.empty false [] 0 [] f.name f.out f.params f.result (A ++ Block.mk (P ++ withA i (X ++ Y.map (subR m)) :: Q) :: C))
  | [], X, h => .step fun J => by
    unfold rn10
    rw [e54_l10]
    simp only [rdI_mid, withA, List.append_nil, List.map_nil]
    simp (disch := first | omega | assumption | (rw [decide_eq_true_eq]; omega) | (rw [decide_eq_false_iff_not]; omega)) only [↓if_pos, ↓if_neg, if_true, if_false, wrap_up, Int.toNat_natCast, Nat.zero_add]
  | v :: Y, X, h => by
    simp only [List.length_cons] at h
    refine Goes.trans (SubR.one (by omega)) ?_
    have := SubR.args (A := A) (C := C) (P := P) (Q := Q) (i := i) (m := m) Y (X ++ [subR m v]) (by simp; omega)
    rw [List.length_append, List.length_singleton] at this
    simp only [List.append_assoc, List.singleton_append] at this
    exact this
theorem SubR.row {A C : List Ev.Block} {m : List (Value × Int)} (hA : A.length ≤ 1000) : ∀ (Q P : List Ev.Ins), P.length + Q.length ≤ 1000 → (∀ i, i ∈ Q → okIns i) →
    Goes C54 U54 (R54 f) k54_l8 (rn8 f m A.length P.length (A ++ Block.mk (P ++ Q) :: C)) k54_j8 (s54_j8 f m A.length ByteArray.empty false [] 0 [] f.name f.out f.params f.result (A ++ Block.mk (P ++ Q.map (subRI m)) :: C))
  | [], P, h, _ => .step fun J => by
    have a1 : A.length < (A ++ Block.mk (P ++ []) :: C).length := by simp only [List.length_append, List.length_cons]; omega
    unfold rn8
    rw [e54_l8]
    simp only [Int.toNat_natCast, Nat.zero_add, blk_mid]
    simp only [List.append_nil, List.map_nil] at a1 ⊢
    simp (disch := first | omega | assumption | (rw [decide_eq_true_eq]; omega) | (rw [decide_eq_false_iff_not]; omega)) only [↓if_pos, ↓if_neg, if_true, if_false, wrap_up, Int.toNat_natCast, Nat.zero_add]
  | i :: Q, P, h, hq => by
    simp only [List.length_cons] at h
    have a1 : A.length < (A ++ Block.mk (P ++ i :: Q) :: C).length := by simp only [List.length_append, List.length_cons]; omega
    have a2 : P.length < (P ++ i :: Q).length := by simp only [List.length_append, List.length_cons]; omega
    have hi := hq i List.mem_cons_self
    refine Goes.trans (k' := k54_l10) (s' := rn10 f m A.length P.length ([] : List Int).length (A ++ Block.mk (P ++ withA i ([] ++ i.args) :: Q) :: C)) (.step fun J => ?_) (Goes.trans (SubR.args i.args [] (by have := hi.1; simp; omega)) ?_)
    · unfold rn8
      rw [e54_l8]
      simp only [Int.toNat_natCast, Nat.zero_add, rdI_mid, wrI_mid, blk_mid]
      simp (disch := first | omega | assumption | (rw [decide_eq_true_eq]; omega) | (rw [decide_eq_false_iff_not]; omega)) only [↓if_pos, ↓if_neg, if_true, if_false, wrap_up, Int.toNat_natCast, Nat.zero_add]
      rfl
    refine Goes.trans (.step fun J => e54_j10 ..) (Goes.trans (.step fun J => e54_j9 ..) ?_)
    have := SubR.row (A := A) (C := C) (m := m) hA Q (P ++ [subRI m i]) (by simp; omega) (fun x hx => hq x (List.mem_cons_of_mem _ hx))
    have w1 : IntKind.i64.wrap ((P.length : Int) + 1) = ((P.length + 1 : Nat) : Int) := wrap_nat rfl (by omega)
    rw [w1]
    rw [List.length_append, List.length_singleton] at this
    simp only [List.append_assoc, List.singleton_append, List.nil_append, List.map_cons] at this ⊢
    exact this
theorem SubR.all {m : List (Value × Int)} : ∀ (C A : List Ev.Block), A.length + C.length ≤ 1000 → (∀ b, b ∈ C → okBl b) →
    Goes C54 U54 (R54 f) k54_l6 (rn6 f m A.length (A ++ C)) k54_j6 (s54_j6 f ByteArray.empty false [] 0 [] f.name f.out f.params f.result (A ++ C.map (subRB m)))
  | [], A, h, _ => .step fun J => by
    unfold rn6
    rw [e54_l6]
    simp only [List.append_nil, List.map_nil]
    simp (disch := first | omega | assumption | (rw [decide_eq_true_eq]; omega) | (rw [decide_eq_false_iff_not]; omega)) only [↓if_pos, ↓if_neg, if_true, if_false, wrap_up, Int.toNat_natCast, Nat.zero_add]
  | b :: C, A, h, hb => by
    simp only [List.length_cons] at h
    have hb1 := hb b List.mem_cons_self
    have a1 : A.length < (A ++ b :: C).length := by simp only [List.length_append, List.length_cons]; omega
    refine Goes.trans (k' := k54_l8) (s' := rn8 f m A.length ([] : List Ev.Ins).length (A ++ Block.mk ([] ++ b.ins) :: C)) (.step fun J => ?_) (Goes.trans (SubR.row (by omega) b.ins [] (by have := hb1.1; simp; omega) hb1.2) ?_)
    · unfold rn6
      rw [e54_l6]
      simp (disch := first | omega | assumption | (rw [decide_eq_true_eq]; omega) | (rw [decide_eq_false_iff_not]; omega)) only [↓if_pos, ↓if_neg, if_true, if_false, wrap_up, Int.toNat_natCast, Nat.zero_add]
      rfl
    refine Goes.trans (.step fun J => e54_j8 ..) (Goes.trans (.step fun J => e54_j7 ..) ?_)
    have := SubR.all (m := m) C (A ++ [subRB m b]) (by simp; omega) (fun x hx => hb x (List.mem_cons_of_mem _ hx))
    have w1 : IntKind.i64.wrap ((A.length : Int) + 1) = ((A.length + 1 : Nat) : Int) := wrap_nat rfl (by omega)
    rw [w1]
    rw [List.length_append, List.length_singleton] at this
    simp only [List.append_assoc, List.singleton_append, List.nil_append, List.map_cons] at this ⊢
    exact this
end
theorem rneat_ok (f : Ev.Func) (h : okF f) : CallOk tb Try.prog 54 (a54 f) (.agg [.v (.string f.name), .v (.bool f.out), .sl true 3 f.params, .v (.int .i64 f.result), .sl true 44 (neatB f.params.length f.blocks)]) [.dead] := by
  have hb := h.2.1
  have hp := h.1
  have hs := h.sz
  obtain ⟨l1, l2⟩ := numB_ok f.blocks f.params.length h.2.2
  have hrel : RelM f.params.length (mapB (initM f.params.length) f.params.length f.blocks) (mapB [] f.params.length f.blocks) := RelM.all f.blocks _ fun v => by rw [initM_get]; rfl
  refine fn54 f (Goes.ends (k' := k54_l0) (s' := rn0 f (0 + 1) (initM 0)) (.step fun J => ?_) ?_)
  · rw [e54, if_pos (show okF ⟨f.name, f.out, f.params, f.result, f.blocks⟩ from h)]
    rfl
  refine Goes.ends (Goes.upto (fun v => rn0 f (v + 1) (initM v)) f.params.length (fun v hv => NumR.init hp hv) _ (Nat.le_refl _)) ?_
  refine Goes.ends (k' := k54_j0) (s' := s54_j0 f f.params.length (initM f.params.length) ByteArray.empty false [] 0 [] f.name f.out f.params f.result f.blocks) (.step fun J => ?_) ?_
  · unfold rn0
    rw [e54_l0]
    simp (disch := first | omega | assumption | (rw [decide_eq_true_eq]; omega) | (rw [decide_eq_false_iff_not]; omega)) only [↓if_pos, ↓if_neg, if_true, if_false, wrap_up, Int.toNat_natCast, Nat.zero_add]
  refine Goes.ends (k' := k54_l2) (s' := rn2 f (initM f.params.length) f.params.length ([] : List Ev.Block).length ([] ++ f.blocks)) (.step fun J => ?_) (Goes.ends (NumR.all f.blocks [] _ f.params.length (by simp; omega) h.2.2 (by omega)) ?_)
  · rw [e54_j0]
    rfl
  refine Goes.ends (k' := k54_l6) (s' := rn6 f (mapB (initM f.params.length) f.params.length f.blocks) ([] : List Ev.Block).length ([] ++ numB f.params.length f.blocks)) (.step fun J => ?_) (Goes.ends (SubR.all (numB f.params.length f.blocks) [] (by simp [l1]; omega) l2) (.step fun J => ?_))
  · rw [e54_j2]
    rfl
  · rw [e54_j6, hrel.sub]
    rfl
def S54 : List (AV Ty) → T (AV Ty × List (AV Ty))
  | [.agg x] => match cod33.dec false x with
    | some f => .ite (okF f) (okF.dec f) (.ret (.agg [.v (.string f.name), .v (.bool f.out), .sl true 3 f.params, .v (.int .i64 f.result), .sl true 44 (neatB f.params.length f.blocks)], [.dead])) .fail
    | none => .fail
  | _ => .fail
theorem S54_ok (l : List (AV Ty)) (r : AV Ty) (outs : List (AV Ty)) (h : (S54 l).val = some (r, outs)) : CallOk tb Try.prog 54 l r outs := by
  unfold S54 at h
  split at h
  · rename_i x
    split at h
    · rename_i f e1
      rcases ite_val h with ⟨e, h⟩ | ⟨_, h⟩
      · cases h
        have h1 := cod33_ok.dec false x f e1
        subst h1
        exact rneat_ok f e
      · cases h
    · cases h
  · cases h
end Go.Proofs.Ytggibjbcbicpjaa.Ev
