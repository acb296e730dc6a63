/- plnref3.Ints: are two rows of numbers the same? -/
import Derived.Test.YtggibjbcbicpjaaEvGo
namespace Go.Proofs.Ytggibjbcbicpjaa.Ev
open Go
noncomputable def b29 : Code := bodyOf Try.f29
def C29 : Cfg Ty := ⟨fun _ => none, fun _ => false, 26, 0⟩
def U29 : Cuts := ⟨fun
  | 0 => some []
  | _ => none, fun
  | 0 => some [(0, none), (1, none), (5, none)]
  | _ => none, fun _ => none⟩
noncomputable def k29_j0 : List Item := [.code (sndC (sndC (sndC b29)))]
noncomputable def k29_l0 : List Item := [.code (inC (inC (sndC (fstC (sndC (sndC b29)))))), .inLoop (inC (inC (sndC (fstC (sndC (sndC b29)))))), .inBlock 0, .code (sndC (sndC (sndC b29)))]
noncomputable def R29 (a b : List Int) : St Ty → Option (AV Ty × List (AV Ty)) := resT tb C29 Try.f29.results.toList .keep [.sl false 3 a, .sl false 3 b]
section
variable (J : List Item → St Ty → Option (AV Ty × List (AV Ty))) (a b : List Int) (i : Int)
theorem e29 : run tb C29 U29 J (R29 a b) 4096 [.code b29] ⟨slotsA [.sl false 3 a, .sl false 3 b] 0 0, heapA [.sl false 3 a, .sl false 3 b]⟩ =
    if ((a.length : Int) != b.length) = true then some (.v (.bool false), [.dead, .dead]) else J k29_l0 ⟨[(0, .sl false 3 a), (1, .sl false 3 b), (5, .v (.int .i64 0))], []⟩ := by kernel_rfl
theorem e29_l0 : run tb C29 U29 J (R29 a b) 4096 k29_l0 ⟨[(0, .sl false 3 a), (1, .sl false 3 b), (5, .v (.int .i64 i))], []⟩ =
    if decide (i < a.length) = true then
      if 0 ≤ i then
        if i < a.length then
          if 0 ≤ i then
            if i < b.length then
              if (a.getD i.toNat 0 != b.getD i.toNat 0) = true then some (.v (.bool false), [.dead, .dead])
              else J k29_l0 ⟨[(0, .sl false 3 a), (1, .sl false 3 b), (5, .v (.int .i64 (IntKind.i64.wrap (i + 1))))], []⟩
            else none
          else none
        else none
      else none
    else J k29_j0 ⟨[], []⟩ := by kernel_rfl
theorem e29_j0 : run tb C29 U29 J (R29 a b) 4096 k29_j0 ⟨[], []⟩ = some (.v (.bool true), [.dead, .dead]) := by kernel_rfl
end
theorem l29 (a b : List Int) (hl : a.length = b.length) (hb : a.length ≤ 4611686018427387904) : ∀ (m i : Nat), i + m = a.length → ∃ n, walk tb C29 U29 (R29 a b) n k29_l0 ⟨[(0, .sl false 3 a), (1, .sl false 3 b), (5, .v (.int .i64 i))], []⟩ = some (.v (.bool (decide (a.drop i = b.drop i))), [.dead, .dead])
  | 0, i, h => by
    refine ⟨2, ?_⟩
    rw [walk_succ, e29_l0, if_neg (by simp; omega), walk_succ, e29_j0, List.drop_eq_nil_of_le (by omega), List.drop_eq_nil_of_le (by omega)]
    rfl
  | m + 1, i, h => by
    have ha : i < a.length := by omega
    have hb' : i < b.length := by omega
    have key : a.drop i = b.drop i ↔ a[i] = b[i] ∧ a.drop (i + 1) = b.drop (i + 1) := by
      rw [List.drop_eq_getElem_cons ha, List.drop_eq_getElem_cons hb', List.cons.injEq]
    by_cases e : a[i] = b[i]
    · obtain ⟨n, hn⟩ := l29 a b hl hb m (i + 1) (by omega)
      refine ⟨n + 1, ?_⟩
      rw [walk_succ, e29_l0, if_pos (by simp; omega), if_pos (by omega), if_pos (by omega), if_pos (by omega), if_pos (by omega), if_neg (by simp [ha, hb', e]), wrap_up (by omega)]
      rw [show ((i : Int) + 1) = ((i + 1 : Nat) : Int) by omega, hn, decide_eq_decide.2 (key.trans (and_iff_right e))]
    · refine ⟨1, ?_⟩
      rw [walk_succ, e29_l0, if_pos (by simp; omega), if_pos (by omega), if_pos (by omega), if_pos (by omega), if_pos (by omega), if_pos (by simp [ha, hb', e]), decide_eq_false fun h => e (key.1 h).1]
theorem ints_ok (a b : List Int) (hb : a.length ≤ 4611686018427387904) : CallOk tb Try.prog 29 [.sl false 3 a, .sl false 3 b] (.v (.bool (decide (a = b)))) [.dead, .dead] := by
  have : ∃ n, evalF tb C29 U29 n b29 Try.f29.results.toList .keep [.sl false 3 a, .sl false 3 b] = some (.v (.bool (decide (a = b))), [.dead, .dead]) := by
    by_cases hl : a.length = b.length
    · obtain ⟨n, hn⟩ := l29 a b hl hb a.length 0 (by omega)
      refine ⟨n + 1, ?_⟩
      exact (e29 _ a b).trans ((if_neg (by simp [hl])).trans hn)
    · refine ⟨1, (e29 _ a b).trans ((if_pos (by simp; omega)).trans ?_)⟩
      rw [decide_eq_false fun h => hl (by rw [h])]
  obtain ⟨n, h⟩ := this
  exact fn_ok tbOk good (fun f mu S h => by cases h) mixed (fn := Try.f29) (body := b29) (by kernel_rfl) (by kernel_rfl) rfl rfl (by show 2 ≤ 26; omega) h
end Go.Proofs.Ytggibjbcbicpjaa.Ev
