/- plnref3.In, plnkeep.Rows, plnlaw14.light, plnref12.Flat: what they come to. -/
import Derived.Test.YtggibjbcbicpjaaSccP
import Derived.Test.YtggibjbcbicpjaaEvS29
namespace Go.Proofs.Ytggibjbcbicpjaa.Ev
open Go
set_option linter.unusedVariables false
set_option linter.unusedSimpArgs false
def yes (q : Bool) : AV Ty := .v (.bool q)
noncomputable def b47 : Code := bodyOf Try.f47
def C47 : Cfg Ty := ⟨fun _ => none, fun _ => false, 18, 0⟩
def U47 : Cuts := ⟨fun
  | 0 => some []
  | _ => none, fun
  | 0 => some [(0, none), (1, none), (5, none)]
  | _ => none, fun _ => none⟩
/-- join 0: live:  -/
noncomputable def k47_j0 : List Item := [.code (sndC (sndC b47))]
/-- loop 0: live: 0, 1, 5 -/
noncomputable def k47_l0 : List Item := [.code (inC (inC (sndC (fstC (sndC b47))))), .inLoop (inC (inC (sndC (fstC (sndC b47))))), .inBlock 0, .code (sndC (sndC b47))]
def a47 (l : List Int) (x : Int) : List (AV Ty) := [.sl false (3 : Nat) l, .v (.int .i64 x)]
noncomputable def R47 (l : List Int) (x : Int) : St Ty → EvR := resT tb C47 Try.f47.results.toList .keep (a47 l x)
def s47_l0 (l : List Int) (x : Int) (v5 : Int) : St Ty := St.mk [(0, .sl false (3) l), (1, .v (.int .i64 x)), (5, .v (.int .i64 v5))] []
def s47_j0 (l : List Int) (x : Int)  : St Ty := St.mk [] []
theorem e47 (J : List Item → St Ty → EvR) (l : List Int) (x : Int) : run tb C47 U47 J (R47 l x) 4096 [.code b47] ⟨slotsA (a47 l x) 0 0, heapA (a47 l x)⟩ =
    J k47_l0 (s47_l0 l x (0 : Int)) := by kernel_rfl
theorem e47_l0 (J : List Item → St Ty → EvR) (l : List Int) (x : Int) (v5 : Int) : run tb C47 U47 J (R47 l x) 4096 k47_l0 (s47_l0 l x v5) =
    if decide (v5 < (↑l.length : Int)) = true then
     if (0 : Int) ≤ v5 then
      if v5 < (↑l.length : Int) then
       if (l.getD v5.toNat (0 : Int) == x) = true then
        some (.v (.bool true), [.dead, .dead])
       else
        J k47_l0 (s47_l0 l x (IntKind.i64.wrap (v5 + (1 : Int))))
      else
       none
     else
      none
    else
     J k47_j0 (s47_j0 l x) := by kernel_rfl
theorem e47_j0 (J : List Item → St Ty → EvR) (l : List Int) (x : Int)  : run tb C47 U47 J (R47 l x) 4096 k47_j0 (s47_j0 l x) =
    some (.v (.bool false), [.dead, .dead]) := by kernel_rfl

theorem in47 : Entered 47 := ⟨Try.f47, b47, by kernel_rfl, by kernel_rfl, by kernel_rfl⟩
theorem fn47 (l : List Int) (x : Int) {res : AV Ty} {outs : List (AV Ty)} (h : Ends C47 U47 (R47 l x) [.code b47] ⟨slotsA (a47 l x) 0 0, heapA (a47 l x)⟩ (some (res, outs))) : CallOk tb Try.prog 47 (a47 l x) res outs := by
  obtain ⟨n0, hn⟩ := h
  exact fn_ok (C := C47) (U := U47) (n := 0 + n0) (q := .keep) tbOk good (fun f mu S h => by cases h) mixed (fn := Try.f47) (body := b47) (by kernel_rfl) (by kernel_rfl) rfl rfl (by show 2 ≤ 18; omega) (hn 0)
section
variable {l : List Int} {x : Int}
theorem In.step (hb : l.length ≤ 4611686018427387904) {i : Nat} (h : i < l.length) (hx : l.getD i 0 ≠ x) : Goes C47 U47 (R47 l x) k47_l0 (s47_l0 l x i) k47_l0 (s47_l0 l x (i + 1 : Nat)) := .step fun J => by
  rw [e47_l0]
  simp (disch := first | omega | assumption | (rw [decide_eq_true_eq]; omega) | (rw [decide_eq_false_iff_not]; omega)) only [↓if_pos, ↓if_neg, if_true, if_false, wrap_up, Int.toNat_natCast, Nat.zero_add, beq_iff_eq, hx]
  rfl
theorem In.hit (hb : l.length ≤ 4611686018427387904) {i : Nat} (h : i < l.length) (hx : l.getD i 0 = x) : Ends C47 U47 (R47 l x) k47_l0 (s47_l0 l x i) (some (yes true, [.dead, .dead])) := .step fun J => by
  rw [e47_l0]
  simp (disch := first | omega | assumption | (rw [decide_eq_true_eq]; omega) | (rw [decide_eq_false_iff_not]; omega)) only [↓if_pos, ↓if_neg, if_true, if_false, wrap_up, Int.toNat_natCast, Nat.zero_add, beq_iff_eq, hx]
  rfl
theorem In.out : Ends C47 U47 (R47 l x) k47_l0 (s47_l0 l x l.length) (some (yes false, [.dead, .dead])) := by
  refine Goes.ends (.step fun J => ?_) (.step fun J => e47_j0 J l x)
  rw [e47_l0]
  simp (disch := first | omega | assumption | (rw [decide_eq_true_eq]; omega) | (rw [decide_eq_false_iff_not]; omega)) only [↓if_pos, ↓if_neg, if_true, if_false, wrap_up, Int.toNat_natCast, Nat.zero_add]
end
theorem in_ok (l : List Int) (x : Int) (hb : l.length ≤ 4611686018427387904) : CallOk tb Try.prog 47 (a47 l x) (yes (decide (x ∈ l))) [.dead, .dead] := by
  refine fn47 l x (Goes.ends (.step fun J => e47 J l x) ?_)
  by_cases h : x ∈ l
  · obtain ⟨i, h1, h2⟩ := mem_getD 0 h
    rw [decide_eq_true h]
    exact Ends.at (fun i => s47_l0 l x i) l.length (fun i => l.getD i 0 ≠ x) (fun i hi hp => In.step hb hi hp) (fun i hi hp => In.hit hb hi (by simpa using hp)) l.length 0 (Nat.zero_add _) ⟨i, Nat.zero_le _, h1, by simpa using h2⟩
  · rw [decide_eq_false h]
    refine Goes.ends (Goes.upto (fun i => s47_l0 l x i) l.length (fun i hi => In.step hb hi fun e => h (e ▸ getD_in hi)) l.length (Nat.le_refl _)) In.out
def inB (l : List Int) (x : Int) : Bool := decide (x ∈ l)
def S47 : List (AV Ty) → T (AV Ty × List (AV Ty))
  | [.sl false 3 l, .v (.int .i64 x)] => .ite (l.length ≤ 4611686018427387904) inferInstance (.ret (yes (inB l x), [.dead, .dead])) .fail
  | _ => .fail
theorem S47_ok (l : List (AV Ty)) (r : AV Ty) (outs : List (AV Ty)) (h : (S47 l).val = some (r, outs)) : CallOk tb Try.prog 47 l r outs := by
  unfold S47 at h
  split at h
  · rcases ite_val h with ⟨e, h⟩ | ⟨_, h⟩
    · cases h; exact in_ok _ _ e
    · cases h
  · cases h
noncomputable def b43 : Code := bodyOf Try.f43
noncomputable def C43 : Cfg Ty := ⟨fun
  | 29 => some ([], S29)
  | _ => none, fun _ => false, 27, 0⟩
def U43 : Cuts := ⟨fun
  | 0 => some []
  | _ => none, fun
  | 0 => some [(0, none), (1, none), (5, none)]
  | _ => none, fun _ => none⟩
/-- join 0: live:  -/
noncomputable def k43_j0 : List Item := [.code (sndC (sndC (sndC b43)))]
/-- loop 0: live: 0, 1, 5 -/
noncomputable def k43_l0 : List Item := [.code (inC (inC (sndC (fstC (sndC (sndC b43)))))), .inLoop (inC (inC (sndC (fstC (sndC (sndC b43)))))), .inBlock 0, .code (sndC (sndC (sndC b43)))]
def a43 (a : List (List Int)) (b : List (List Int)) : List (AV Ty) := [.sl false (30 : Nat) a, .sl false (30 : Nat) b]
noncomputable def R43 (a : List (List Int)) (b : List (List Int)) : St Ty → EvR := resT tb C43 Try.f43.results.toList .keep (a43 a b)
def s43_l0 (a : List (List Int)) (b : List (List Int)) (v5 : Int) : St Ty := St.mk [(0, .sl false (30) a), (1, .sl false (30) b), (5, .v (.int .i64 v5))] []
def s43_j0 (a : List (List Int)) (b : List (List Int))  : St Ty := St.mk [] []
theorem e43 (J : List Item → St Ty → EvR) (a : List (List Int)) (b : List (List Int)) : run tb C43 U43 J (R43 a b) 4096 [.code b43] ⟨slotsA (a43 a b) 0 0, heapA (a43 a b)⟩ =
    if ((↑a.length : Int) != (↑b.length : Int)) = true then
     some (.v (.bool false), [.dead, .dead])
    else
     J k43_l0 (s43_l0 a b (0 : Int)) := by kernel_rfl
theorem e43_l0 (J : List Item → St Ty → EvR) (a : List (List Int)) (b : List (List Int)) (v5 : Int) : run tb C43 U43 J (R43 a b) 4096 k43_l0 (s43_l0 a b v5) =
    if decide (v5 < (↑a.length : Int)) = true then
     if (0 : Int) ≤ v5 then
      if v5 < (↑a.length : Int) then
       if (0 : Int) ≤ v5 then
        if v5 < (↑b.length : Int) then
         if List.length (a.getD v5.toNat []) ≤ (4611686018427387904 : Nat) then
          if (!same3 (a.getD v5.toNat []) (b.getD v5.toNat [])) = true then
           some (.v (.bool false), [.dead, .dead])
          else
           J k43_l0 (s43_l0 a b (IntKind.i64.wrap (v5 + (1 : Int))))
         else
          none
        else
         none
       else
        none
      else
       none
     else
      none
    else
     J k43_j0 (s43_j0 a b) := by kernel_rfl
theorem e43_j0 (J : List Item → St Ty → EvR) (a : List (List Int)) (b : List (List Int))  : run tb C43 U43 J (R43 a b) 4096 k43_j0 (s43_j0 a b) =
    some (.v (.bool true), [.dead, .dead]) := by kernel_rfl

theorem in43 : Entered 43 := ⟨Try.f43, b43, by kernel_rfl, by kernel_rfl, by kernel_rfl⟩
theorem fn43 (a b : List (List Int)) {res : AV Ty} {outs : List (AV Ty)} (h : Ends C43 U43 (R43 a b) [.code b43] ⟨slotsA (a43 a b) 0 0, heapA (a43 a b)⟩ (some (res, outs))) : CallOk tb Try.prog 43 (a43 a b) res outs := by
  obtain ⟨n0, hn⟩ := h
  exact fn_ok (C := C43) (U := U43) (n := 0 + n0) (q := .keep) tbOk good (fun f mu S h => by
    unfold C43 at h
    simp only at h
    split at h
    · cases h; exact ⟨in29, S29_ok⟩
    · cases h) mixed (fn := Try.f43) (body := b43) (by kernel_rfl) (by kernel_rfl) rfl rfl (by show 2 ≤ 27; omega) (hn 0)
section
variable {a b : List (List Int)}
theorem Rows.step (hl : a.length = b.length) (hb : a.length ≤ 4611686018427387904) (hr : ∀ r, r ∈ a → r.length ≤ 4611686018427387904) {i : Nat} (h : i < a.length) (hx : a.getD i [] = b.getD i []) : Goes C43 U43 (R43 a b) k43_l0 (s43_l0 a b i) k43_l0 (s43_l0 a b (i + 1 : Nat)) := .step fun J => by
  have h1 := hr _ (getD_in (d := []) h)
  have h2 : (!same3 (a.getD i []) (b.getD i [])) ≠ true := by simp only [same3, decide_eq_true hx]; decide
  rw [e43_l0]
  simp (disch := first | omega | assumption | (rw [decide_eq_true_eq]; omega) | (rw [decide_eq_false_iff_not]; omega)) only [↓if_pos, ↓if_neg, if_true, if_false, wrap_up, Int.toNat_natCast, Nat.zero_add, if_neg h2]
  rfl
theorem Rows.hit (hl : a.length = b.length) (hb : a.length ≤ 4611686018427387904) (hr : ∀ r, r ∈ a → r.length ≤ 4611686018427387904) {i : Nat} (h : i < a.length) (hx : ¬ a.getD i [] = b.getD i []) : Ends C43 U43 (R43 a b) k43_l0 (s43_l0 a b i) (some (yes false, [.dead, .dead])) := .step fun J => by
  have h1 := hr _ (getD_in (d := []) h)
  have h2 : (!same3 (a.getD i []) (b.getD i [])) = true := by simp only [same3, decide_eq_false hx]; decide
  rw [e43_l0]
  simp (disch := first | omega | assumption | (rw [decide_eq_true_eq]; omega) | (rw [decide_eq_false_iff_not]; omega)) only [↓if_pos, ↓if_neg, if_true, if_false, wrap_up, Int.toNat_natCast, Nat.zero_add]
  rfl
theorem Rows.out : Ends C43 U43 (R43 a b) k43_l0 (s43_l0 a b a.length) (some (yes true, [.dead, .dead])) := by
  refine Goes.ends (.step fun J => ?_) (.step fun J => e43_j0 J a b)
  rw [e43_l0]
  simp (disch := first | omega | assumption | (rw [decide_eq_true_eq]; omega) | (rw [decide_eq_false_iff_not]; omega)) only [↓if_pos, ↓if_neg, if_true, if_false, wrap_up, Int.toNat_natCast, Nat.zero_add]
end
theorem rows_ok (a b : List (List Int)) (hb : a.length ≤ 4611686018427387904) (hr : ∀ r, r ∈ a → r.length ≤ 4611686018427387904) : CallOk tb Try.prog 43 (a43 a b) (yes (decide (a = b))) [.dead, .dead] := by
  refine fn43 a b ?_
  by_cases hl : a.length = b.length
  · refine Goes.ends (.step fun J => ?_) (?_ : Ends C43 U43 (R43 a b) k43_l0 (s43_l0 a b (0 : Nat)) _)
    · rw [e43, if_neg (by rw [bne_iff_ne]; omega)]
      rfl
    by_cases h : a = b
    · rw [decide_eq_true h]
      exact Goes.ends (Goes.upto (fun i => s43_l0 a b i) a.length (fun i hi => Rows.step hl hb hr hi (by rw [h])) a.length (Nat.le_refl _)) Rows.out
    · rw [decide_eq_false h]
      have : ∃ j, j < a.length ∧ ¬ a.getD j [] = b.getD j [] := by
        refine Classical.byContradiction fun hn => h (ext_getD [] hl fun i hi => Classical.byContradiction fun hc => hn ⟨i, hi, hc⟩)
      obtain ⟨j, h1, h2⟩ := this
      exact Ends.at (fun i => s43_l0 a b i) a.length (fun i => a.getD i [] = b.getD i []) (fun i hi hp => Rows.step hl hb hr hi hp) (fun i hi hp => Rows.hit hl hb hr hi hp) a.length 0 (Nat.zero_add _) ⟨j, Nat.zero_le _, h1, h2⟩
  · rw [decide_eq_false fun e => hl (by rw [e])]
    exact .step fun J => by rw [e43, if_pos (by rw [bne_iff_ne]; omega)]; rfl
def sameRows (a b : List (List Int)) : Bool := decide (a = b)
def rowsIn (a : List (List Int)) : Prop := a.length ≤ 4611686018427387904 ∧ ∀ r, r ∈ a → r.length ≤ 4611686018427387904
instance rowsIn.dec (a : List (List Int)) : Decidable (rowsIn a) := by unfold rowsIn; infer_instance
def S43 : List (AV Ty) → T (AV Ty × List (AV Ty))
  | [.sl false 30 a, .sl false 30 b] => .ite (rowsIn a) (rowsIn.dec a) (.ret (yes (sameRows a b), [.dead, .dead])) .fail
  | _ => .fail
theorem S43_ok (l : List (AV Ty)) (r : AV Ty) (outs : List (AV Ty)) (h : (S43 l).val = some (r, outs)) : CallOk tb Try.prog 43 l r outs := by
  unfold S43 at h
  split at h
  · rcases ite_val h with ⟨e, h⟩ | ⟨_, h⟩
    · cases h; exact rows_ok _ _ e.1 e.2
    · cases h
  · cases h
noncomputable def b39 : Code := bodyOf Try.f39
def C39 : Cfg Ty := ⟨fun _ => none, fun _ => false, 19, 0⟩
def U39 : Cuts := ⟨fun
  | 0 => some []
  | _ => none, fun
  | 0 => some [(0, none), (3, none)]
  | _ => none, fun _ => none⟩
/-- join 0: live:  -/
noncomputable def k39_j0 : List Item := [.code (sndC (sndC (sndC b39)))]
/-- loop 0: live: 0, 3 -/
noncomputable def k39_l0 : List Item := [.code (inC (inC (sndC (fstC (sndC (sndC b39)))))), .inLoop (inC (inC (sndC (fstC (sndC (sndC b39)))))), .inBlock 0, .code (sndC (sndC (sndC b39)))]
def a39 (g : List (List Int)) : List (AV Ty) := [.sl false (30 : Nat) g]
noncomputable def R39 (g : List (List Int)) : St Ty → EvR := resT tb C39 Try.f39.results.toList .keep (a39 g)
def s39_l0 (g : List (List Int)) (v3 : Int) : St Ty := St.mk [(0, .sl false (30) g), (3, .v (.int .i64 v3))] []
def s39_j0 (g : List (List Int))  : St Ty := St.mk [] []
theorem e39 (J : List Item → St Ty → EvR) (g : List (List Int)) : run tb C39 U39 J (R39 g) 4096 [.code b39] ⟨slotsA (a39 g) 0 0, heapA (a39 g)⟩ =
    if decide ((↑g.length : Int) > (24 : Int)) = true then
     some (.v (.bool false), [.dead])
    else
     J k39_l0 (s39_l0 g (0 : Int)) := by kernel_rfl
theorem e39_l0 (J : List Item → St Ty → EvR) (g : List (List Int)) (v3 : Int) : run tb C39 U39 J (R39 g) 4096 k39_l0 (s39_l0 g v3) =
    if decide (v3 < (↑g.length : Int)) = true then
     if (0 : Int) ≤ v3 then
      if v3 < (↑g.length : Int) then
       if decide ((↑(List.length (g.getD v3.toNat [])) : Int) > (30 : Int)) = true then
        some (.v (.bool false), [.dead])
       else
        J k39_l0 (s39_l0 g (IntKind.i64.wrap (v3 + (1 : Int))))
      else
       none
     else
      none
    else
     J k39_j0 (s39_j0 g) := by kernel_rfl
theorem e39_j0 (J : List Item → St Ty → EvR) (g : List (List Int))  : run tb C39 U39 J (R39 g) 4096 k39_j0 (s39_j0 g) =
    some (.v (.bool true), [.dead]) := by kernel_rfl

theorem in39 : Entered 39 := ⟨Try.f39, b39, by kernel_rfl, by kernel_rfl, by kernel_rfl⟩
theorem fn39 (g : List (List Int)) {res : AV Ty} {outs : List (AV Ty)} (h : Ends C39 U39 (R39 g) [.code b39] ⟨slotsA (a39 g) 0 0, heapA (a39 g)⟩ (some (res, outs))) : CallOk tb Try.prog 39 (a39 g) res outs := by
  obtain ⟨n0, hn⟩ := h
  exact fn_ok (C := C39) (U := U39) (n := 0 + n0) (q := .keep) tbOk good (fun f mu S h => by cases h) mixed (fn := Try.f39) (body := b39) (by kernel_rfl) (by kernel_rfl) rfl rfl (by show 1 ≤ 19; omega) (hn 0)
section
variable {g : List (List Int)}
theorem Light.step (hb : g.length ≤ 24) {i : Nat} (h : i < g.length) (hx : (g.getD i []).length ≤ 30) : Goes C39 U39 (R39 g) k39_l0 (s39_l0 g i) k39_l0 (s39_l0 g (i + 1 : Nat)) := .step fun J => by
  rw [e39_l0, Int.toNat_natCast]
  simp (disch := first | omega | assumption | (rw [decide_eq_true_eq]; omega) | (rw [decide_eq_false_iff_not]; omega)) only [↓if_pos, ↓if_neg, if_true, if_false, wrap_up, Int.toNat_natCast, Nat.zero_add]
  rfl
theorem Light.hit (hb : g.length ≤ 24) {i : Nat} (h : i < g.length) (hx : ¬ (g.getD i []).length ≤ 30) : Ends C39 U39 (R39 g) k39_l0 (s39_l0 g i) (some (yes false, [.dead])) := .step fun J => by
  rw [e39_l0, Int.toNat_natCast]
  simp (disch := first | omega | assumption | (rw [decide_eq_true_eq]; omega) | (rw [decide_eq_false_iff_not]; omega)) only [↓if_pos, ↓if_neg, if_true, if_false, wrap_up, Int.toNat_natCast, Nat.zero_add]
  rfl
theorem Light.out : Ends C39 U39 (R39 g) k39_l0 (s39_l0 g g.length) (some (yes true, [.dead])) := by
  refine Goes.ends (.step fun J => ?_) (.step fun J => e39_j0 J g)
  rw [e39_l0]
  simp (disch := first | omega | assumption | (rw [decide_eq_true_eq]; omega) | (rw [decide_eq_false_iff_not]; omega)) only [↓if_pos, ↓if_neg, if_true, if_false, wrap_up, Int.toNat_natCast, Nat.zero_add]
end
def light (g : List (List Int)) : Prop := g.length ≤ 24 ∧ ∀ r, r ∈ g → r.length ≤ 30
instance (g : List (List Int)) : Decidable (light g) := by unfold light; infer_instance
theorem light_ok (g : List (List Int)) : CallOk tb Try.prog 39 (a39 g) (yes (decide (light g))) [.dead] := by
  refine fn39 g ?_
  by_cases hl : g.length ≤ 24
  · refine Goes.ends (.step fun J => ?_) (?_ : Ends C39 U39 (R39 g) k39_l0 (s39_l0 g (0 : Nat)) _)
    · rw [e39]
      simp (disch := first | omega | assumption | (rw [decide_eq_true_eq]; omega) | (rw [decide_eq_false_iff_not]; omega)) only [↓if_pos, ↓if_neg, if_true, if_false, wrap_up, Int.toNat_natCast, Nat.zero_add]
      rfl
    by_cases h : light g
    · rw [decide_eq_true h]
      exact Goes.ends (Goes.upto (fun i => s39_l0 g i) g.length (fun i hi => Light.step hl hi (h.2 _ (getD_in hi))) g.length (Nat.le_refl _)) Light.out
    · rw [decide_eq_false h]
      have : ∃ j, j < g.length ∧ ¬ (g.getD j []).length ≤ 30 := by
        refine Classical.byContradiction fun hn => h ⟨hl, fun r hr => ?_⟩
        obtain ⟨i, hi, e⟩ := mem_getD [] hr
        exact Classical.byContradiction fun hc => hn ⟨i, hi, by rw [e]; exact hc⟩
      obtain ⟨j, h1, h2⟩ := this
      exact Ends.at (fun i => s39_l0 g i) g.length (fun i => (g.getD i []).length ≤ 30) (fun i hi hp => Light.step hl hi hp) (fun i hi hp => Light.hit hl hi hp) g.length 0 (Nat.zero_add _) ⟨j, Nat.zero_le _, h1, h2⟩
  · rw [decide_eq_false fun e => hl e.1]
    exact .step fun J => by
      rw [e39]
      simp (disch := first | omega | assumption | (rw [decide_eq_true_eq]; omega) | (rw [decide_eq_false_iff_not]; omega)) only [↓if_pos, ↓if_neg, if_true, if_false, wrap_up, Int.toNat_natCast, Nat.zero_add]
      rfl
def lightB (g : List (List Int)) : Bool := decide (light g)
def S39 : List (AV Ty) → T (AV Ty × List (AV Ty))
  | [.sl false 30 g] => .ret (yes (lightB g), [.dead])
  | _ => .fail
theorem S39_ok (l : List (AV Ty)) (r : AV Ty) (outs : List (AV Ty)) (h : (S39 l).val = some (r, outs)) : CallOk tb Try.prog 39 l r outs := by
  unfold S39 at h
  split at h
  · cases h; exact light_ok _
  · cases h
noncomputable def b46 : Code := bodyOf Try.f46
noncomputable def C46 : Cfg Ty := ⟨fun _ => none, fun
  | 3 => true
  | 16 => true
  | _ => false, 18, 0⟩
def U46 : Cuts := ⟨fun
  | 0 => some [(3, some 3)]
  | _ => none, fun
  | 0 => some [(0, none), (3, some 3), (4, none)]
  | _ => none, fun _ => none⟩
/-- join 0: live: 3 -/
noncomputable def k46_j0 : List Item := [.code (sndC (sndC (sndC b46)))]
/-- loop 0: live: 0, 3, 4 -/
noncomputable def k46_l0 : List Item := [.code (inC (inC (sndC (fstC (sndC (sndC b46)))))), .inLoop (inC (inC (sndC (fstC (sndC (sndC b46)))))), .inBlock 0, .code (sndC (sndC (sndC b46)))]
def a46 (l : List (List Int)) : List (AV Ty) := [.sl false (30 : Nat) l]
noncomputable def R46 (l : List (List Int)) : St Ty → EvR := resT tb C46 Try.f46.results.toList (.own 3) (a46 l)
def s46_l0 (l : List (List Int)) (v4 : Int) (h0 : List Int) : St Ty := St.mk [(0, .sl false (30) l), (3, .ref (0) [] none false), (4, .v (.int .i64 v4))] [some (Root.mk (3) true h0)]
def s46_j0 (l : List (List Int)) (h0 : List Int) : St Ty := St.mk [(3, .ref (0) [] none false)] [some (Root.mk (3) true h0)]
theorem e46 (J : List Item → St Ty → EvR) (l : List (List Int)) : run tb C46 U46 J (R46 l) 4096 [.code b46] ⟨slotsA (a46 l) 0 0, heapA (a46 l)⟩ =
    J k46_l0 (s46_l0 l (0 : Int) ([])) := by kernel_rfl
theorem e46_l0 (J : List Item → St Ty → EvR) (l : List (List Int)) (v4 : Int) (h0 : List Int) : run tb C46 U46 J (R46 l) 4096 k46_l0 (s46_l0 l v4 h0) =
    if decide (v4 < (↑l.length : Int)) = true then
     if (0 : Int) ≤ v4 then
      if v4 < (↑l.length : Int) then
       if h0.length + List.length (l.getD v4.toNat []) + (1 : Nat) ≤ (549755813888 : Nat) ∧ (h0.length + List.length (l.getD v4.toNat []) + (1 : Nat)) * (8 : Nat) ≤ (549755813888 : Nat) then
        J k46_l0 (s46_l0 l (IntKind.i64.wrap (v4 + (1 : Int))) (h0 ++ l.getD v4.toNat []))
       else
        none
      else
       none
     else
      none
    else
     J k46_j0 (s46_j0 l (h0)) := by kernel_rfl
theorem e46_j0 (J : List Item → St Ty → EvR) (l : List (List Int)) (h0 : List Int) : run tb C46 U46 J (R46 l) 4096 k46_j0 (s46_j0 l h0) =
    some (.sl true (3) h0, [.dead]) := by kernel_rfl

theorem in46 : Entered 46 := ⟨Try.f46, b46, by kernel_rfl, by kernel_rfl, by kernel_rfl⟩
theorem fn46 (l : List (List Int)) {res : AV Ty} {outs : List (AV Ty)} (h : Ends C46 U46 (R46 l) [.code b46] ⟨slotsA (a46 l) 0 0, heapA (a46 l)⟩ (some (res, outs))) : CallOk tb Try.prog 46 (a46 l) res outs := by
  obtain ⟨n0, hn⟩ := h
  exact fn_ok (C := C46) (U := U46) (n := 0 + n0) (q := (.own 3)) tbOk good (fun f mu S h => by cases h) mixed (fn := Try.f46) (body := b46) (by kernel_rfl) (by kernel_rfl) rfl rfl (by show 1 ≤ 18; omega) (hn 0)
theorem flat_len (l : List (List Int)) : (l.take (l.length)).flatten = l.flatten := by rw [List.take_length]
theorem take_flat {l : List (List Int)} {i : Nat} (h : i < l.length) : (l.take (i + 1)).flatten = (l.take i).flatten ++ l.getD i [] := by
  rw [List.take_add_one, List.flatten_append, List.getD_eq_getElem?_getD, List.getElem?_eq_getElem h]
  simp
theorem flatten_le {l : List (List Int)} {m n : Nat} (h1 : l.length ≤ n) (h2 : ∀ r, r ∈ l → r.length ≤ m) : l.flatten.length ≤ n * m := by
  induction l generalizing n with
  | nil => simp
  | cons x l ih =>
    cases n with
    | zero => simp at h1
    | succ n =>
      have := ih (n := n) (by simpa using h1) (fun r hr => h2 r (List.mem_cons_of_mem _ hr))
      have h3 := h2 x List.mem_cons_self
      rw [List.flatten_cons, List.length_append, Nat.succ_mul]
      omega
def smallRows (l : List (List Int)) : Prop := l.length ≤ 1000 ∧ ∀ r, r ∈ l → r.length ≤ 1000
instance smallRows.dec (g : List (List Int)) : Decidable (smallRows g) := by unfold smallRows; infer_instance
theorem flat_ok (l : List (List Int)) (h : smallRows l) : CallOk tb Try.prog 46 (a46 l) (.sl true 3 l.flatten) [.dead] := by
  refine fn46 l (Goes.ends (.step fun J => e46 J l) ?_)
  obtain ⟨h1, h2⟩ := h
  have step : ∀ i, i < l.length → Goes C46 U46 (R46 l) k46_l0 (s46_l0 l i (l.take i).flatten) k46_l0 (s46_l0 l (i + 1 : Nat) (l.take (i + 1)).flatten) := fun i hi => .step fun J => by
    have b1 : (l.take i).flatten.length ≤ 1000 * 1000 := flatten_le (by rw [List.length_take]; omega) fun r hr => h2 r (List.mem_of_mem_take hr)
    have b2 := h2 _ (getD_in (d := []) hi)
    rw [e46_l0]
    simp (disch := first | omega | assumption | (rw [decide_eq_true_eq]; omega) | (rw [decide_eq_false_iff_not]; omega)) only [↓if_pos, ↓if_neg, if_true, if_false, wrap_up, Int.toNat_natCast, Nat.zero_add]
    rw [take_flat hi]
    rfl
  refine Goes.ends (Goes.upto (fun i => s46_l0 l i (l.take i).flatten) l.length step l.length (Nat.le_refl _)) ?_
  refine Goes.ends (k' := k46_j0) (s' := s46_j0 l l.flatten) (.step fun J => ?_) (.step fun J => e46_j0 J l _)
  rw [e46_l0]
  simp (disch := first | omega | assumption | (rw [decide_eq_true_eq]; omega) | (rw [decide_eq_false_iff_not]; omega)) only [↓if_pos, ↓if_neg, if_true, if_false, wrap_up, Int.toNat_natCast, Nat.zero_add, List.take_length]
def S46 : List (AV Ty) → T (AV Ty × List (AV Ty))
  | [.sl false 30 l] => .ite (smallRows l) (smallRows.dec l) (.ret (.sl true 3 l.flatten, [.dead])) .fail
  | _ => .fail
theorem S46_ok (l : List (AV Ty)) (r : AV Ty) (outs : List (AV Ty)) (h : (S46 l).val = some (r, outs)) : CallOk tb Try.prog 46 l r outs := by
  unfold S46 at h
  split at h
  · rcases ite_val h with ⟨e, h⟩ | ⟨_, h⟩
    · cases h; exact flat_ok _ e
    · cases h
  · cases h
end Go.Proofs.Ytggibjbcbicpjaa.Ev
