/- scc.Order: the sets one behind the other. -/
import Derived.Test.YtggibjbcbicpjaaSccH
import Derived.Test.YtggibjbcbicpjaaSccI
namespace Go.Proofs.Ytggibjbcbicpjaa.Ev
open Go
set_option linter.unusedVariables false
set_option linter.unusedSimpArgs false
noncomputable def b45 : Code := bodyOf Try.f45
noncomputable def C45 : Cfg Ty := ⟨fun
  | 44 => some ([], S44)
  | _ => none, fun
  | 3 => true
  | 15 => true
  | _ => false, 18, 0⟩
def U45 : Cuts := ⟨fun
  | 0 => some [(3, some 3)]
  | _ => none, fun
  | 0 => some [(3, some 3), (7, none), (8, none), (9, none)]
  | _ => none, fun _ => none⟩
/-- join 0: live: 3 -/
noncomputable def k45_j0 : List Item := [.code (sndC (sndC (sndC b45)))]
/-- loop 0: live: 3, 7, 8, 9 -/
noncomputable def k45_l0 : List Item := [.code (inC (inC (sndC (fstC (sndC (sndC b45)))))), .inLoop (inC (inC (sndC (fstC (sndC (sndC b45)))))), .inBlock 0, .code (sndC (sndC (sndC b45)))]
def a45 (g : List (List Int)) : List (AV Ty) := [.sl false (30 : Nat) g]
noncomputable def R45 (g : List (List Int)) : St Ty → EvR := resT tb C45 Try.f45.results.toList (.own 3) (a45 g)
def s45_l0 (g : List (List Int)) (v7 : List (List Int)) (v8 : Int) (v9 : Int) (h0 : List Int) : St Ty := St.mk [(3, .ref (0) [] none false), (7, .sl false (30) v7), (8, .v (.int .i64 v8)), (9, .v (.int .i64 v9))] [some (Root.mk (3) true h0)]
def s45_j0 (g : List (List Int)) (h0 : List Int) : St Ty := St.mk [(3, .ref (0) [] none false)] [some (Root.mk (3) true h0)]
theorem e45 (J : List Item → St Ty → EvR) (g : List (List Int)) : run tb C45 U45 J (R45 g) 4096 [.code b45] ⟨slotsA (a45 g) 0 0, heapA (a45 g)⟩ =
    if smallRows g then
     J k45_l0 (s45_l0 g (setsI g) ((↑(setsI g).length : Int)) (0 : Int) ([]))
    else
     none := by kernel_rfl
theorem e45_l0 (J : List Item → St Ty → EvR) (g : List (List Int)) (v7 : List (List Int)) (v8 : Int) (v9 : Int) (h0 : List Int) : run tb C45 U45 J (R45 g) 4096 k45_l0 (s45_l0 g v7 v8 v9 h0) =
    if decide (v9 < v8) = true then
     if (0 : Int) ≤ v9 then
      if v9 < (↑v7.length : Int) then
       if h0.length + List.length (v7.getD v9.toNat []) + (1 : Nat) ≤ (549755813888 : Nat) ∧ (h0.length + List.length (v7.getD v9.toNat []) + (1 : Nat)) * (8 : Nat) ≤ (549755813888 : Nat) then
        J k45_l0 (s45_l0 g (v7) (v8) (IntKind.i64.wrap (v9 + (1 : Int))) (h0 ++ v7.getD v9.toNat []))
       else
        none
      else
       none
     else
      none
    else
     J k45_j0 (s45_j0 g (h0)) := by kernel_rfl
theorem e45_j0 (J : List Item → St Ty → EvR) (g : List (List Int)) (h0 : List Int) : run tb C45 U45 J (R45 g) 4096 k45_j0 (s45_j0 g h0) =
    some (.sl true (3) h0, [.dead]) := by kernel_rfl

theorem in45 : Entered 45 := ⟨Try.f45, b45, by kernel_rfl, by kernel_rfl, by kernel_rfl⟩
theorem fn45 (g : List (List Int)) {res : AV Ty} {outs : List (AV Ty)} (h : Ends C45 U45 (R45 g) [.code b45] ⟨slotsA (a45 g) 0 0, heapA (a45 g)⟩ (some (res, outs))) : CallOk tb Try.prog 45 (a45 g) res outs := by
  obtain ⟨n0, hn⟩ := h
  exact fn_ok (C := C45) (U := U45) (n := 0 + n0) (q := (.own 3)) tbOk good (fun f mu S h => by
    unfold C45 at h
    simp only at h
    split at h
    · cases h; exact ⟨in44, S44_ok⟩
    · cases h) mixed (fn := Try.f45) (body := b45) (by kernel_rfl) (by kernel_rfl) rfl rfl (by show 1 ≤ 18; omega) (hn 0)
theorem setsI_small {g : List (List Int)} (hg : smallRows g) : smallRows (setsI g) :=
  ⟨Nat.le_trans (setsI_len_le g) hg.1, fun r hr => Nat.le_trans (setsI_row_le hr) hg.1⟩
theorem order_ok (g : List (List Int)) (hg : smallRows g) : CallOk tb Try.prog 45 (a45 g) (.sl true 3 (setsI g).flatten) [.dead] := by
  obtain ⟨h1, h2⟩ := setsI_small hg
  have step : ∀ i, i < (setsI g).length → Goes C45 U45 (R45 g) k45_l0 (s45_l0 g (setsI g) (setsI g).length i ((setsI g).take i).flatten) k45_l0 (s45_l0 g (setsI g) (setsI g).length (i + 1 : Nat) ((setsI g).take (i + 1)).flatten) := fun i hi => .step fun J => by
    have b1 : ((setsI g).take i).flatten.length ≤ 1000 * 1000 := flatten_le (by rw [List.length_take]; omega) fun r hr => h2 r (List.mem_of_mem_take hr)
    have b2 := h2 _ (getD_in (d := []) hi)
    rw [e45_l0]
    simp (disch := first | omega | assumption | (rw [decide_eq_true_eq]; omega) | (rw [decide_eq_false_iff_not]; omega)) only [↓if_pos, ↓if_neg, if_true, if_false, wrap_up, Int.toNat_natCast, Nat.zero_add]
    rw [take_flat hi]
    rfl
  refine fn45 g (Goes.ends (.step (k' := k45_l0) (s' := s45_l0 g (setsI g) (setsI g).length (0 : Nat) ((setsI g).take 0).flatten) fun J => ?_) (Goes.ends (Goes.upto (fun i => s45_l0 g (setsI g) (setsI g).length i ((setsI g).take i).flatten) (setsI g).length step (setsI g).length (Nat.le_refl _)) (Goes.ends (.step (k' := k45_j0) (s' := s45_j0 g (setsI g).flatten) fun J => ?_) (.step fun J => e45_j0 J g _))))
  · rw [e45]
    simp (disch := first | omega | assumption | (rw [decide_eq_true_eq]; omega) | (rw [decide_eq_false_iff_not]; omega)) only [↓if_pos, ↓if_neg, if_true, if_false, wrap_up, Int.toNat_natCast, Nat.zero_add]
    rfl
  · rw [e45_l0]
    simp (disch := first | omega | assumption | (rw [decide_eq_true_eq]; omega) | (rw [decide_eq_false_iff_not]; omega)) only [↓if_pos, ↓if_neg, if_true, if_false, wrap_up, Int.toNat_natCast, Nat.zero_add, List.take_length]
noncomputable def S45 : List (AV Ty) → T (AV Ty × List (AV Ty))
  | [.sl false 30 g] => .ite (smallRows g) (smallRows.dec g) (.ret (.sl true 3 (setsI g).flatten, [.dead])) .fail
  | _ => .fail
theorem S45_ok (l : List (AV Ty)) (r : AV Ty) (outs : List (AV Ty)) (h : (S45 l).val = some (r, outs)) : CallOk tb Try.prog 45 l r outs := by
  unfold S45 at h
  split at h
  · rcases ite_val h with ⟨e, h⟩ | ⟨_, h⟩
    · cases h; exact order_ok _ e
    · cases h
  · cases h
end Go.Proofs.Ytggibjbcbicpjaa.Ev
