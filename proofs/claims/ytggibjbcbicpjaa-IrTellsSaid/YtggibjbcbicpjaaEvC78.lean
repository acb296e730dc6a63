/- plnref3.SameIns: are two instructions the same? -/
import Derived.Test.YtggibjbcbicpjaaEvS29
namespace Go.Proofs.Ytggibjbcbicpjaa.Ev
open Go
noncomputable def b78 : Code := bodyOf Try.f78
def C78 : Cfg Ty := ⟨fun
  | 29 => some ([], S29)
  | _ => none, fun _ => false, 52, 0⟩
def U78 : Cuts := ⟨fun _ => none, fun _ => none, fun _ => none⟩
def insA (a : Ev.Ins) : AV Ty := .agg ((codA 46).enc false a)
noncomputable def R78 (a b : Ev.Ins) : St Ty → Option (AV Ty × List (AV Ty)) := resT tb C78 Try.f78.results.toList .keep [insA a, insA b]
theorem e78 (J : List Item → St Ty → Option (AV Ty × List (AV Ty))) (a b : Ev.Ins) : run tb C78 U78 J (R78 a b) 4096 [.code b78] ⟨slotsA [insA a, insA b] 0 0, heapA [insA a, insA b]⟩ =
    if (a.1 == b.1) = true then
      if (a.2 == b.2) = true then
        if (a.3 == b.3) = true then
          if (a.4 == b.4) = true then
            if (a.5 == b.5) = true then
              if a.6.length ≤ 4611686018427387904 then
                if same3 a.6 b.6 = true then
                  if a.7.length ≤ 4611686018427387904 then some (.v (.bool (same3 a.7 b.7)), [.dead, .dead]) else none
                else some (.v (.bool false), [.dead, .dead])
              else none
            else some (.v (.bool false), [.dead, .dead])
          else some (.v (.bool false), [.dead, .dead])
        else some (.v (.bool false), [.dead, .dead])
      else some (.v (.bool false), [.dead, .dead])
    else some (.v (.bool false), [.dead, .dead]) := by kernel_rfl
def sameIns (a b : Ev.Ins) : Bool := a.1 == b.1 && a.2 == b.2 && a.3 == b.3 && a.4 == b.4 && a.5 == b.5 && same3 a.6 b.6 && same3 a.7 b.7
theorem sameIns_ok (a b : Ev.Ins) (h6 : a.6.length ≤ 4611686018427387904) (h7 : a.7.length ≤ 4611686018427387904) : CallOk tb Try.prog 78 [insA a, insA b] (.v (.bool (sameIns a b))) [.dead, .dead] := by
  have h : evalF tb C78 U78 1 b78 Try.f78.results.toList .keep [insA a, insA b] = some (.v (.bool (sameIns a b)), [.dead, .dead]) := by
    refine (e78 _ a b).trans ?_
    unfold sameIns
    cases a.1 == b.1 <;> cases a.2 == b.2 <;> cases a.3 == b.3 <;> cases a.4 == b.4 <;> cases a.5 == b.5 <;> cases same3 a.6 b.6 <;> simp [h6, h7]
  refine fn_ok tbOk good (fun f mu S h => ?_) mixed (fn := Try.f78) (body := b78) (by kernel_rfl) (by kernel_rfl) rfl rfl (by show 2 ≤ 52; omega) h
  unfold C78 at h
  simp only at h
  split at h
  · cases h; exact ⟨in29, S29_ok⟩
  · cases h
end Go.Proofs.Ytggibjbcbicpjaa.Ev
