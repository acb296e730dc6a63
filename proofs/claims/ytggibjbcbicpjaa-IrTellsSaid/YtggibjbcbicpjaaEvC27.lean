/- plnref3.SameFunc: are two functions the same? -/
import Derived.Test.YtggibjbcbicpjaaEvS78
namespace Go.Proofs.Ytggibjbcbicpjaa.Ev
open Go
noncomputable def b27 : Code := bodyOf Try.f27
def C27 : Cfg Ty := ⟨fun
  | 29 => some ([], S29)
  | 78 => some ([], S78)
  | _ => none, fun _ => false, 85, 0⟩
def U27 : Cuts := ⟨fun
  | 0 => some []
  | 1 => some [(2, none), (3, none), (5, none)]
  | 2 => some [(2, none), (3, none), (5, none)]
  | _ => none, fun
  | 0 => some [(2, none), (3, none), (5, none)]
  | 2 => some [(2, none), (3, none), (5, none), (6, none), (7, none), (8, none)]
  | _ => none, fun _ => none⟩
noncomputable def k27_j0 : List Item := [.code (sndC (sndC (sndC b27)))]
noncomputable def k27_l0 : List Item := [.code (inC (inC (sndC (fstC (sndC (sndC b27)))))), .inLoop (inC (inC (sndC (fstC (sndC (sndC b27)))))), .inBlock 0, .code (sndC (sndC (sndC b27)))]
noncomputable def k27_j1 : List Item := [.code (sndC (sndC (inC (inC (sndC (fstC (sndC (sndC b27)))))))), .inLoop (inC (inC (sndC (fstC (sndC (sndC b27)))))), .inBlock 0, .code (sndC (sndC (sndC b27)))]
noncomputable def k27_j2 : List Item := [.inBlock 1, .code (sndC (sndC (inC (inC (sndC (fstC (sndC (sndC b27)))))))), .inLoop (inC (inC (sndC (fstC (sndC (sndC b27)))))), .inBlock 0, .code (sndC (sndC (sndC b27)))]
noncomputable def k27_l2 : List Item := [.code (inC (inC (sndC (sndC (sndC (inC (fstC (sndC (inC (inC (sndC (fstC (sndC (sndC b27)))))))))))))), .inLoop (inC (inC (sndC (sndC (sndC (inC (fstC (sndC (inC (inC (sndC (fstC (sndC (sndC b27)))))))))))))), .inBlock 2, .inBlock 1, .code (sndC (sndC (inC (inC (sndC (fstC (sndC (sndC b27)))))))), .inLoop (inC (inC (sndC (fstC (sndC (sndC b27)))))), .inBlock 0, .code (sndC (sndC (sndC b27)))]
def funA (a : Ev.Func) : AV Ty := .agg ((codA 33).enc false a)
noncomputable def R27 (a b : Ev.Func) : St Ty → Option (AV Ty × List (AV Ty)) := resT tb C27 Try.f27.results.toList .keep [funA a, funA b]
def s27 (a b : Ev.Func) (i : Int) : St Ty := ⟨[(2, .ptr 0 [] 0 0), (3, .ptr 1 [] 0 0), (5, .v (.int .i64 i))], [some ⟨33, false, [a]⟩, some ⟨33, false, [b]⟩]⟩
def t27 (a b : Ev.Func) (i : Int) (x y : List Ev.Ins) (k : Int) : St Ty := ⟨[(2, .ptr 0 [] 0 0), (3, .ptr 1 [] 0 0), (5, .v (.int .i64 i)), (6, .sl false 46 x), (7, .sl false 46 y), (8, .v (.int .i64 k))], [some ⟨33, false, [a]⟩, some ⟨33, false, [b]⟩]⟩
def yes2 (q : Bool) : Option (AV Ty × List (AV Ty)) := some (.v (.bool q), [.dead, .dead])
section
variable (J : List Item → St Ty → Option (AV Ty × List (AV Ty))) (a b : Ev.Func) (i k : Int) (x y : List Ev.Ins)
theorem e27 : run tb C27 U27 J (R27 a b) 4096 [.code b27] ⟨slotsA [funA a, funA b] 0 0, heapA [funA a, funA b]⟩ =
    if (!(a.1.toList == b.1.toList)) = false then
      if (!(a.2 == b.2)) = false then
        if (a.4 != b.4) = false then
          if a.3.length ≤ 4611686018427387904 then
            if (!same3 a.3 b.3) = false then
              if ((a.5.length : Int) != b.5.length) = true then yes2 false else J k27_l0 (s27 a b 0)
            else yes2 false
          else none
        else yes2 false
      else yes2 false
    else yes2 false := by kernel_rfl
theorem e27_l0 : run tb C27 U27 J (R27 a b) 4096 k27_l0 (s27 a b i) =
    if decide (i < a.blocks.length) = true then
      if 0 ≤ i then if i < a.blocks.length then if 0 ≤ i then if i < b.blocks.length then
        if (((a.blocks.getD i.toNat default).ins.length : Int) != (b.blocks.getD i.toNat default).ins.length) = true then yes2 false
        else J k27_l2 (t27 a b i (a.blocks.getD i.toNat default).ins (b.blocks.getD i.toNat default).ins 0)
      else none else none else none else none
    else J k27_j0 ⟨[], []⟩ := by kernel_rfl
theorem e27_j0 : run tb C27 U27 J (R27 a b) 4096 k27_j0 ⟨[], []⟩ = yes2 true := by kernel_rfl
theorem e27_j2 : run tb C27 U27 J (R27 a b) 4096 k27_j2 (s27 a b i) = J k27_j1 (s27 a b i) := by kernel_rfl
theorem e27_j1 : run tb C27 U27 J (R27 a b) 4096 k27_j1 (s27 a b i) = J k27_l0 (s27 a b (IntKind.i64.wrap (i + 1))) := by kernel_rfl
theorem e27_l2 : run tb C27 U27 J (R27 a b) 4096 k27_l2 (t27 a b i x y k) =
    if decide (k < x.length) = true then
      if 0 ≤ k then if k < x.length then if 0 ≤ k then if k < y.length then
        if (x.getD k.toNat default).6.length ≤ 4611686018427387904 ∧ (x.getD k.toNat default).7.length ≤ 4611686018427387904 then
          if (!sameIns (x.getD k.toNat default) (y.getD k.toNat default)) = true then yes2 false
          else J k27_l2 (t27 a b i x y (IntKind.i64.wrap (k + 1)))
        else none
      else none else none else none else none
    else J k27_j2 (s27 a b i) := by kernel_rfl
end
theorem sameIns_eq (a b : Ev.Ins) : sameIns a b = true ↔ a = b := by
  unfold sameIns same3
  rw [Ins.ext_iff]
  simp [and_assoc]
def smallIns (c : Ev.Ins) : Prop := c.6.length ≤ 4611686018427387904 ∧ c.7.length ≤ 4611686018427387904
theorem l27_2 (a b : Ev.Func) (i : Int) (x y : List Ev.Ins) (hl : x.length = y.length) (hb : x.length ≤ 4611686018427387904) (hs : ∀ c, c ∈ x → smallIns c) : ∀ (m k : Nat), k + m = x.length →
    ∃ n0, ∀ n, walk tb C27 U27 (R27 a b) (n + n0) k27_l2 (t27 a b i x y k) = if decide (x.drop k = y.drop k) = true then walk tb C27 U27 (R27 a b) n k27_j2 (s27 a b i) else yes2 false
  | 0, k, h => by
    refine ⟨1, fun n => ?_⟩
    rw [walk_succ, e27_l2, if_neg (by simp; omega), List.drop_eq_nil_of_le (by omega), List.drop_eq_nil_of_le (by omega)]
    rfl
  | m + 1, k, h => by
    have hx : k < x.length := by omega
    have hy : k < y.length := by omega
    have key : x.drop k = y.drop k ↔ x[k] = y[k] ∧ x.drop (k + 1) = y.drop (k + 1) := by
      rw [List.drop_eq_getElem_cons hx, List.drop_eq_getElem_cons hy, List.cons.injEq]
    have gx : x.getD (k : Int).toNat default = x[k] := by simp [hx]
    have gy : y.getD (k : Int).toNat default = y[k] := by simp [hy]
    have hsm : x[k].6.length ≤ 4611686018427387904 ∧ x[k].7.length ≤ 4611686018427387904 := hs x[k] (List.getElem_mem hx)
    by_cases e : x[k] = y[k]
    · obtain ⟨n0, hn⟩ := l27_2 a b i x y hl hb hs m (k + 1) (by omega)
      refine ⟨n0 + 1, fun n => ?_⟩
      rw [← Nat.add_assoc, walk_succ, e27_l2, if_pos (by simp; omega), if_pos (by omega), if_pos (by omega), if_pos (by omega), if_pos (by omega), gx, gy, if_pos hsm, if_neg (by simp [(sameIns_eq _ _).2 e]), wrap_up (by omega)]
      rw [show ((k : Int) + 1) = ((k + 1 : Nat) : Int) by omega, hn, decide_eq_decide.2 (key.trans (and_iff_right e))]
    · refine ⟨1, fun n => ?_⟩
      have : sameIns x[k] y[k] = false := by
        cases h : sameIns x[k] y[k] with
        | false => rfl
        | true => exact absurd ((sameIns_eq _ _).1 h) e
      rw [walk_succ, e27_l2, if_pos (by simp; omega), if_pos (by omega), if_pos (by omega), if_pos (by omega), if_pos (by omega), gx, gy, if_pos hsm, if_pos (by rw [this]; rfl), decide_eq_false fun h => e (key.1 h).1]
      rfl
def smallFun (a : Ev.Func) : Prop := a.3.length ≤ 4611686018427387904 ∧ a.5.length ≤ 4611686018427387904 ∧ ∀ c, c ∈ a.5 → c.1.length ≤ 4611686018427387904 ∧ ∀ d, d ∈ c.1 → smallIns d
theorem l27_0 (a b : Ev.Func) (hl : a.5.length = b.5.length) (hs : smallFun a) : ∀ (m i : Nat), i + m = a.5.length → ∃ n, walk tb C27 U27 (R27 a b) n k27_l0 (s27 a b i) = yes2 (decide (a.5.drop i = b.5.drop i))
  | 0, i, h => by
    refine ⟨2, ?_⟩
    rw [walk_succ, e27_l0, if_neg (by simp; omega), walk_succ, e27_j0, List.drop_eq_nil_of_le (by omega), List.drop_eq_nil_of_le (by omega)]
    rfl
  | m + 1, i, h => by
    have ha : i < a.5.length := by omega
    have hb : i < b.5.length := by omega
    have hbound := hs.2.1
    have key : a.5.drop i = b.5.drop i ↔ a.5[i].1 = b.5[i].1 ∧ a.5.drop (i + 1) = b.5.drop (i + 1) := by
      rw [List.drop_eq_getElem_cons ha, List.drop_eq_getElem_cons hb, List.cons.injEq, Block.ext_iff]
    have ga : a.5.getD (i : Int).toNat default = a.5[i] := by simp [ha]
    have gb : b.5.getD (i : Int).toNat default = b.5[i] := by simp [hb]
    obtain ⟨hs1, hs2⟩ := hs.2.2 _ (List.getElem_mem ha)
    by_cases el : a.5[i].1.length = b.5[i].1.length
    · obtain ⟨n0, hn⟩ := l27_2 a b i a.5[i].1 b.5[i].1 el hs1 hs2 a.5[i].1.length 0 (by omega)
      obtain ⟨n1, hn1⟩ := l27_0 a b hl hs m (i + 1) (by omega)
      refine ⟨n1 + 1 + 1 + n0 + 1, ?_⟩
      rw [walk_succ, e27_l0, if_pos (by simp; omega), if_pos (by omega), if_pos (by omega), if_pos (by omega), if_pos (by omega), ga, gb, if_neg (by simp [el])]
      have := hn (n1 + 1 + 1)
      rw [show ((0 : Nat) : Int) = 0 from rfl] at this
      rw [this]
      by_cases e : a.5[i].1 = b.5[i].1
      · rw [if_pos (by simp [e]), walk_succ, e27_j2, walk_succ, e27_j1, wrap_up (by omega), show ((i : Int) + 1) = ((i + 1 : Nat) : Int) by omega, hn1, decide_eq_decide.2 (key.trans (and_iff_right e))]
      · rw [if_neg (by simp [e]), decide_eq_false fun h => e (key.1 h).1]
    · refine ⟨1, ?_⟩
      rw [walk_succ, e27_l0, if_pos (by simp; omega), if_pos (by omega), if_pos (by omega), if_pos (by omega), if_pos (by omega), ga, gb, if_pos (by simp; omega), decide_eq_false fun h => el (by rw [(key.1 h).1])]
def sameFun (a b : Ev.Func) : Bool := a.1.toList == b.1.toList && a.2 == b.2 && a.4 == b.4 && same3 a.3 b.3 && decide (a.5 = b.5)
theorem sameFun_ok (a b : Ev.Func) (hs : smallFun a) : CallOk tb Try.prog 27 [funA a, funA b] (.v (.bool (sameFun a b))) [.dead, .dead] := by
  have : ∃ n, evalF tb C27 U27 n b27 Try.f27.results.toList .keep [funA a, funA b] = yes2 (sameFun a b) := by
    have hp := hs.1
    by_cases hl : a.5.length = b.5.length
    · obtain ⟨n, hn⟩ := l27_0 a b hl hs a.5.length 0 (by omega)
      refine ⟨n + 1, (e27 _ a b).trans ?_⟩
      rw [show ((0 : Nat) : Int) = 0 from rfl] at hn
      unfold sameFun
      have hn2 : walk tb C27 U27 (resT tb C27 Try.f27.results.toList .keep [funA a, funA b]) n k27_l0 (s27 a b 0) = yes2 (decide (a.5 = b.5)) := hn
      rw [if_pos hp, hn2, if_neg (show ¬ ((a.5.length : Int) != b.5.length) = true by simp [hl])]
      cases h1 : a.1.toList == b.1.toList <;> cases h2 : a.2 == b.2 <;> cases h3 : a.4 == b.4 <;> cases h4 : same3 a.3 b.3 <;> simp [bne, h3]
    · refine ⟨1, (e27 _ a b).trans ?_⟩
      have hd : decide (a.5 = b.5) = false := decide_eq_false fun h => hl (by rw [h])
      unfold sameFun
      rw [if_pos hp, hd, if_pos (show ((a.5.length : Int) != b.5.length) = true by simp; omega)]
      cases h1 : a.1.toList == b.1.toList <;> cases h2 : a.2 == b.2 <;> cases h3 : a.4 == b.4 <;> cases h4 : same3 a.3 b.3 <;> simp [bne, h3]
  obtain ⟨n, h⟩ := this
  refine fn_ok tbOk good (fun f mu S h => ?_) mixed (fn := Try.f27) (body := b27) (by kernel_rfl) (by kernel_rfl) rfl rfl (by show 2 ≤ 85; omega) h
  unfold C27 at h
  simp only at h
  split at h
  · cases h; exact ⟨in29, S29_ok⟩
  · cases h; exact ⟨in78, S78_ok⟩
  · cases h
end Go.Proofs.Ytggibjbcbicpjaa.Ev
