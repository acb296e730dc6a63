/- plnlaw14.first: what the chapter's example fixes. -/
import Derived.Test.YtggibjbcbicpjaaSccJ
namespace Go.Proofs.Ytggibjbcbicpjaa.Ev
open Go
set_option linter.unusedVariables false
set_option linter.unusedSimpArgs false
noncomputable def b38 : Code := bodyOf Try.f38
noncomputable def C38 : Cfg Ty := ⟨fun
  | 44 => some ([], S44)
  | 43 => some ([], S43)
  | 45 => some ([], S45)
  | 29 => some ([], S29)
  | 40 => some ([], S40)
  | _ => none, fun
  | 200001 => true
  | _ => false, 26, 0⟩
def U38 : Cuts := ⟨fun _ => none, fun _ => none, fun _ => none⟩
def a38  : List (AV Ty) := []
noncomputable def R38  : St Ty → EvR := resT tb C38 Try.f38.results.toList .keep (a38)
theorem e38 (J : List Item → St Ty → EvR)  : run tb C38 U38 J (R38) 4096 [.code b38] ⟨slotsA (a38) 0 0, heapA (a38)⟩ =
    if rowsIn (setsI [[(1 : Int)], [(0 : Int), (2 : Int)], []]) then
     if sameRows (setsI [[(1 : Int)], [(0 : Int), (2 : Int)], []]) [[(2 : Int)], [(0 : Int), (1 : Int)]] = true then
      if (setsI [[(1 : Int)], [(0 : Int), (2 : Int)], []]).flatten.length ≤ (4611686018427387904 : Nat) then
       if same3 (setsI [[(1 : Int)], [(0 : Int), (2 : Int)], []]).flatten [(2 : Int), (0 : Int), (1 : Int)] = true then
        if recB [[(1 : Int)], [(0 : Int), (2 : Int)], []] (0 : Int) = true then
         some (.v (.bool !recB [[(1 : Int)], [(0 : Int), (2 : Int)], []] (2 : Int)), [])
        else
         some (.v (.bool false), [])
       else
        some (.v (.bool false), [])
      else
       none
     else
      some (.v (.bool false), [])
    else
     none := by kernel_rfl

theorem in38 : Entered 38 := ⟨Try.f38, b38, by kernel_rfl, by kernel_rfl, by kernel_rfl⟩
theorem fn38  {res : AV Ty} {outs : List (AV Ty)} (h : Ends C38 U38 (R38) [.code b38] ⟨slotsA (a38) 0 0, heapA (a38)⟩ (some (res, outs))) : CallOk tb Try.prog 38 (a38) res outs := by
  obtain ⟨n0, hn⟩ := h
  exact fn_ok (C := C38) (U := U38) (n := 0 + n0) (q := .keep) tbOk good (fun f mu S h => by
    unfold C38 at h
    simp only at h
    split at h
    · cases h; exact ⟨in44, S44_ok⟩
    · cases h; exact ⟨in43, S43_ok⟩
    · cases h; exact ⟨in45, S45_ok⟩
    · cases h; exact ⟨in29, S29_ok⟩
    · cases h; exact ⟨in40, S40_ok⟩
    · cases h) mixed (fn := Try.f38) (body := b38) (by kernel_rfl) (by kernel_rfl) rfl rfl (by show 0 ≤ 26; omega) (hn 0)
theorem first_ok : CallOk tb Try.prog 38 a38 (yes true) [] := by
  refine fn38 (.step fun J => ?_)
  have e1 : setsI [[(1 : Int)], [(0 : Int), (2 : Int)], []] = [[2], [0, 1]] := setsI_g0
  have e2 : recB [[(1 : Int)], [(0 : Int), (2 : Int)], []] 0 = true := rec0_g0
  have e3 : recB [[(1 : Int)], [(0 : Int), (2 : Int)], []] 2 = false := rec2_g0
  have c1 : rowsIn [[(2 : Int)], [0, 1]] := by
    refine ⟨by decide, fun r hr => ?_⟩
    simp only [List.mem_cons, List.not_mem_nil, or_false] at hr
    rcases hr with rfl | rfl <;> decide
  have c2 : sameRows [[(2 : Int)], [0, 1]] [[(2 : Int)], [0, 1]] = true := decide_eq_true rfl
  have c3 : ([[(2 : Int)], [0, 1]] : List (List Int)).flatten.length ≤ 4611686018427387904 := by decide
  have c4 : same3 ([[(2 : Int)], [0, 1]] : List (List Int)).flatten [(2 : Int), 0, 1] = true := decide_eq_true rfl
  rw [e38, e1, e2, e3, if_pos c1, if_pos c2, if_pos c3, if_pos c4, if_pos rfl]
  rfl
def S38 : List (AV Ty) → T (AV Ty × List (AV Ty))
  | [] => .ret (yes true, [])
  | _ => .fail
theorem S38_ok (l : List (AV Ty)) (r : AV Ty) (outs : List (AV Ty)) (h : (S38 l).val = some (r, outs)) : CallOk tb Try.prog 38 l r outs := by
  unfold S38 at h
  split at h
  · cases h; exact first_ok
  · cases h
theorem small_of {g : List (List Int)} (h : light g) : smallRows g := ⟨Nat.le_trans h.1 (by omega), fun r hr => Nat.le_trans (h.2 r hr) (by omega)⟩
theorem lightB_iff {g : List (List Int)} : lightB g = true ↔ light g := by unfold lightB; exact decide_eq_true_iff
end Go.Proofs.Ytggibjbcbicpjaa.Ev
