/- scc.tarjan.free: are all other sets told that a set leads to? -/
import Derived.Test.YtggibjbcbicpjaaSccD
namespace Go.Proofs.Ytggibjbcbicpjaa.Ev
open Go
set_option linter.unusedVariables false
set_option linter.unusedSimpArgs false
def freeOk (g : List (List Int)) (se s : List Int) (told : List Bool) : Prop := smallRows g ∧ se.length = g.length ∧ s.length ≤ 1000000 ∧ (∀ x, x ∈ s → 0 ≤ x ∧ x < g.length) ∧ (∀ x, x ∈ se → 0 ≤ x ∧ x < told.length)
noncomputable instance freeOk.dec (g : List (List Int)) (se s : List Int) (told : List Bool) : Decidable (freeOk g se s told) := Classical.propDecidable _
/-- Nothing stands in the way that leads from x to y. -/
def wayOk (g : List (List Int)) (se : List Int) (told : List Bool) (x y : Int) : Prop := 0 ≤ y → y < g.length → se.getD y.toNat 0 ≠ se.getD x.toNat 0 → told.getD (se.getD y.toNat 0).toNat false = true
def freeP (g : List (List Int)) (se s : List Int) (told : List Bool) : Prop := ∀ x, x ∈ s → ∀ y, y ∈ g.getD x.toNat [] → wayOk g se told x y
open Classical in
noncomputable def freeB (g : List (List Int)) (se s : List Int) (told : List Bool) : Bool := decide (freeP g se s told)
noncomputable def b85 : Code := bodyOf Try.f85
def C85 : Cfg Ty := ⟨fun _ => none, fun _ => false, 72, 0⟩
def U85 : Cuts := ⟨fun
  | 0 => some []
  | 1 => some [(0, none), (2, none), (11, none), (12, none), (13, none)]
  | 2 => some [(0, none), (2, none), (11, none), (12, none), (13, none)]
  | _ => none, fun
  | 0 => some [(0, none), (2, none), (11, none), (12, none), (13, none)]
  | 2 => some [(0, none), (2, none), (8, none), (11, none), (12, none), (13, none), (23, none), (24, none), (25, none)]
  | _ => none, fun _ => none⟩
/-- join 0: live:  -/
noncomputable def k85_j0 : List Item := [.code (sndC (sndC b85))]
/-- loop 0: live: 0, 2, 11, 12, 13 -/
noncomputable def k85_l0 : List Item := [.code (inC (inC (sndC (fstC (sndC b85))))), .inLoop (inC (inC (sndC (fstC (sndC b85))))), .inBlock 0, .code (sndC (sndC b85))]
/-- join 1: live: 0, 2, 11, 12, 13 -/
noncomputable def k85_j1 : List Item := [.code (sndC (sndC (sndC (inC (inC (sndC (fstC (sndC b85)))))))), .inLoop (inC (inC (sndC (fstC (sndC b85))))), .inBlock 0, .code (sndC (sndC b85))]
/-- join 2: live: 0, 2, 11, 12, 13 -/
noncomputable def k85_j2 : List Item := [.inBlock 1, .code (sndC (sndC (sndC (inC (inC (sndC (fstC (sndC b85)))))))), .inLoop (inC (inC (sndC (fstC (sndC b85))))), .inBlock 0, .code (sndC (sndC b85))]
/-- loop 2: live: 0, 2, 8, 11, 12, 13, 23, 24, 25 -/
noncomputable def k85_l2 : List Item := [.code (inC (inC (sndC (sndC (inC (fstC (sndC (sndC (inC (inC (sndC (fstC (sndC b85))))))))))))), .inLoop (inC (inC (sndC (sndC (inC (fstC (sndC (sndC (inC (inC (sndC (fstC (sndC b85))))))))))))), .inBlock 2, .inBlock 1, .code (sndC (sndC (sndC (inC (inC (sndC (fstC (sndC b85)))))))), .inLoop (inC (inC (sndC (fstC (sndC b85))))), .inBlock 0, .code (sndC (sndC b85))]
def a85 (g : List (List Int)) (ix : List Int) (lw : List Int) (on : List Bool) (st : List Int) (nx : Int) (se : List Int) (sn : Int) (s : List Int) (told : List Bool) : List (AV Ty) := [.rp (104 : Nat) [Tarjan.mk g ix lw on st nx se sn] (0 : Nat) (0 : Nat), .sl false (3 : Nat) s, .sl false (4 : Nat) told]
noncomputable def R85 (g : List (List Int)) (ix : List Int) (lw : List Int) (on : List Bool) (st : List Int) (nx : Int) (se : List Int) (sn : Int) (s : List Int) (told : List Bool) : St Ty → EvR := resT tb C85 Try.f85.results.toList .keep (a85 g ix lw on st nx se sn s told)
def s85_l0 (g : List (List Int)) (ix : List Int) (lw : List Int) (on : List Bool) (st : List Int) (nx : Int) (se : List Int) (sn : Int) (s : List Int) (told : List Bool) (v0 : List Tarjan) (v11 : List Int) (v12 : Int) (v13 : Int) : St Ty := St.mk [(0, .rp (104) v0 (0) (0)), (2, .sl false (4) told), (11, .sl false (3) v11), (12, .v (.int .i64 v12)), (13, .v (.int .i64 v13))] []
def s85_l2 (g : List (List Int)) (ix : List Int) (lw : List Int) (on : List Bool) (st : List Int) (nx : Int) (se : List Int) (sn : Int) (s : List Int) (told : List Bool) (v0 : List Tarjan) (v8 : Int) (v11 : List Int) (v12 : Int) (v13 : Int) (v23 : List Int) (v24 : Int) (v25 : Int) : St Ty := St.mk [(0, .rp (104) v0 (0) (0)), (2, .sl false (4) told), (8, .v (.int .i64 v8)), (11, .sl false (3) v11), (12, .v (.int .i64 v12)), (13, .v (.int .i64 v13)), (23, .sl false (3) v23), (24, .v (.int .i64 v24)), (25, .v (.int .i64 v25))] []
def s85_j0 (g : List (List Int)) (ix : List Int) (lw : List Int) (on : List Bool) (st : List Int) (nx : Int) (se : List Int) (sn : Int) (s : List Int) (told : List Bool)  : St Ty := St.mk [] []
def s85_j2 (g : List (List Int)) (ix : List Int) (lw : List Int) (on : List Bool) (st : List Int) (nx : Int) (se : List Int) (sn : Int) (s : List Int) (told : List Bool) (v0 : List Tarjan) (v11 : List Int) (v12 : Int) (v13 : Int) : St Ty := St.mk [(0, .rp (104) v0 (0) (0)), (2, .sl false (4) told), (11, .sl false (3) v11), (12, .v (.int .i64 v12)), (13, .v (.int .i64 v13))] []
def s85_j1 (g : List (List Int)) (ix : List Int) (lw : List Int) (on : List Bool) (st : List Int) (nx : Int) (se : List Int) (sn : Int) (s : List Int) (told : List Bool) (v0 : List Tarjan) (v11 : List Int) (v12 : Int) (v13 : Int) : St Ty := St.mk [(0, .rp (104) v0 (0) (0)), (2, .sl false (4) told), (11, .sl false (3) v11), (12, .v (.int .i64 v12)), (13, .v (.int .i64 v13))] []
theorem e85 (J : List Item → St Ty → EvR) (g : List (List Int)) (ix : List Int) (lw : List Int) (on : List Bool) (st : List Int) (nx : Int) (se : List Int) (sn : Int) (s : List Int) (told : List Bool) : run tb C85 U85 J (R85 g ix lw on st nx se sn s told) 4096 [.code b85] ⟨slotsA (a85 g ix lw on st nx se sn s told) 0 0, heapA (a85 g ix lw on st nx se sn s told)⟩ =
    J k85_l0 (s85_l0 g ix lw on st nx se sn s told ([Tarjan.mk g ix lw on st nx se sn]) (s) ((↑s.length : Int)) (0 : Int)) := by kernel_rfl
theorem e85_l0 (J : List Item → St Ty → EvR) (g : List (List Int)) (ix : List Int) (lw : List Int) (on : List Bool) (st : List Int) (nx : Int) (se : List Int) (sn : Int) (s : List Int) (told : List Bool) (v0 : List Tarjan) (v11 : List Int) (v12 : Int) (v13 : Int) : run tb C85 U85 J (R85 g ix lw on st nx se sn s told) 4096 k85_l0 (s85_l0 g ix lw on st nx se sn s told v0 v11 v12 v13) =
    if decide (v13 < v12) = true then
     if (0 : Int) ≤ v13 then
      if v13 < (↑v11.length : Int) then
       if (0 : Int) ≤ v11.getD v13.toNat (0 : Int) then
        if v11.getD v13.toNat (0 : Int) < (↑(v0.getD (0) (Tarjan.mk [] [] [] [] [] (0 : Int) [] (0 : Int))).g.length : Int) then
         J k85_l2 (s85_l2 g ix lw on st nx se sn s told (v0) (v11.getD v13.toNat (0 : Int)) (v11) (v12) (v13) ((v0.getD (0) (Tarjan.mk [] [] [] [] [] (0 : Int) [] (0 : Int))).g.getD (Int.toNat (v11.getD v13.toNat (0 : Int))) []) ((↑(List.length ((v0.getD (0) (Tarjan.mk [] [] [] [] [] (0 : Int) [] (0 : Int))).g.getD (Int.toNat (v11.getD v13.toNat (0 : Int))) [])) : Int)) (0 : Int))
        else
         none
       else
        none
      else
       none
     else
      none
    else
     J k85_j0 (s85_j0 g ix lw on st nx se sn s told) := by kernel_rfl
theorem e85_l2 (J : List Item → St Ty → EvR) (g : List (List Int)) (ix : List Int) (lw : List Int) (on : List Bool) (st : List Int) (nx : Int) (se : List Int) (sn : Int) (s : List Int) (told : List Bool) (v0 : List Tarjan) (v8 : Int) (v11 : List Int) (v12 : Int) (v13 : Int) (v23 : List Int) (v24 : Int) (v25 : Int) : run tb C85 U85 J (R85 g ix lw on st nx se sn s told) 4096 k85_l2 (s85_l2 g ix lw on st nx se sn s told v0 v8 v11 v12 v13 v23 v24 v25) =
    if decide (v25 < v24) = true then
     if (0 : Int) ≤ v25 then
      if v25 < (↑v23.length : Int) then
       if decide (v23.getD v25.toNat (0 : Int) ≥ (0 : Int)) = true then
        if decide (v23.getD v25.toNat (0 : Int) < (↑(v0.getD (0) (Tarjan.mk [] [] [] [] [] (0 : Int) [] (0 : Int))).g.length : Int)) = true then
         if (0 : Int) ≤ v23.getD v25.toNat (0 : Int) then
          if v23.getD v25.toNat (0 : Int) < (↑(v0.getD (0) (Tarjan.mk [] [] [] [] [] (0 : Int) [] (0 : Int))).set_.length : Int) then
           if (0 : Int) ≤ v8 then
            if v8 < (↑(v0.getD (0) (Tarjan.mk [] [] [] [] [] (0 : Int) [] (0 : Int))).set_.length : Int) then
             if ((v0.getD (0) (Tarjan.mk [] [] [] [] [] (0 : Int) [] (0 : Int))).set_.getD (Int.toNat (v23.getD v25.toNat (0 : Int))) (0 : Int) != (v0.getD (0) (Tarjan.mk [] [] [] [] [] (0 : Int) [] (0 : Int))).set_.getD v8.toNat (0 : Int)) = true then
              if (0 : Int) ≤ v23.getD v25.toNat (0 : Int) then
               if v23.getD v25.toNat (0 : Int) < (↑(v0.getD (0) (Tarjan.mk [] [] [] [] [] (0 : Int) [] (0 : Int))).set_.length : Int) then
                if (0 : Int) ≤ (v0.getD (0) (Tarjan.mk [] [] [] [] [] (0 : Int) [] (0 : Int))).set_.getD (Int.toNat (v23.getD v25.toNat (0 : Int))) (0 : Int) then
                 if (v0.getD (0) (Tarjan.mk [] [] [] [] [] (0 : Int) [] (0 : Int))).set_.getD (Int.toNat (v23.getD v25.toNat (0 : Int))) (0 : Int) < (↑told.length : Int) then
                  if (!told.getD (Int.toNat ((v0.getD (0) (Tarjan.mk [] [] [] [] [] (0 : Int) [] (0 : Int))).set_.getD (Int.toNat (v23.getD v25.toNat (0 : Int))) (0 : Int))) false) = true then
                   some (.v (.bool false), [.dead, .dead, .dead])
                  else
                   J k85_l2 (s85_l2 g ix lw on st nx se sn s told (v0) (v8) (v11) (v12) (v13) (v23) (v24) (IntKind.i64.wrap (v25 + (1 : Int))))
                 else
                  none
                else
                 none
               else
                none
              else
               none
             else
              J k85_l2 (s85_l2 g ix lw on st nx se sn s told (v0) (v8) (v11) (v12) (v13) (v23) (v24) (IntKind.i64.wrap (v25 + (1 : Int))))
            else
             none
           else
            none
          else
           none
         else
          none
        else
         J k85_l2 (s85_l2 g ix lw on st nx se sn s told (v0) (v8) (v11) (v12) (v13) (v23) (v24) (IntKind.i64.wrap (v25 + (1 : Int))))
       else
        J k85_l2 (s85_l2 g ix lw on st nx se sn s told (v0) (v8) (v11) (v12) (v13) (v23) (v24) (IntKind.i64.wrap (v25 + (1 : Int))))
      else
       none
     else
      none
    else
     J k85_j2 (s85_j2 g ix lw on st nx se sn s told (v0) (v11) (v12) (v13)) := by kernel_rfl
theorem e85_j0 (J : List Item → St Ty → EvR) (g : List (List Int)) (ix : List Int) (lw : List Int) (on : List Bool) (st : List Int) (nx : Int) (se : List Int) (sn : Int) (s : List Int) (told : List Bool)  : run tb C85 U85 J (R85 g ix lw on st nx se sn s told) 4096 k85_j0 (s85_j0 g ix lw on st nx se sn s told) =
    some (.v (.bool true), [.dead, .dead, .dead]) := by kernel_rfl
theorem e85_j2 (J : List Item → St Ty → EvR) (g : List (List Int)) (ix : List Int) (lw : List Int) (on : List Bool) (st : List Int) (nx : Int) (se : List Int) (sn : Int) (s : List Int) (told : List Bool) (v0 : List Tarjan) (v11 : List Int) (v12 : Int) (v13 : Int) : run tb C85 U85 J (R85 g ix lw on st nx se sn s told) 4096 k85_j2 (s85_j2 g ix lw on st nx se sn s told v0 v11 v12 v13) =
    J k85_j1 (s85_j1 g ix lw on st nx se sn s told (v0) (v11) (v12) (v13)) := by kernel_rfl
theorem e85_j1 (J : List Item → St Ty → EvR) (g : List (List Int)) (ix : List Int) (lw : List Int) (on : List Bool) (st : List Int) (nx : Int) (se : List Int) (sn : Int) (s : List Int) (told : List Bool) (v0 : List Tarjan) (v11 : List Int) (v12 : Int) (v13 : Int) : run tb C85 U85 J (R85 g ix lw on st nx se sn s told) 4096 k85_j1 (s85_j1 g ix lw on st nx se sn s told v0 v11 v12 v13) =
    J k85_l0 (s85_l0 g ix lw on st nx se sn s told (v0) (v11) (v12) (IntKind.i64.wrap (v13 + (1 : Int)))) := by kernel_rfl

theorem in85 : Entered 85 := ⟨Try.f85, b85, by kernel_rfl, by kernel_rfl, by kernel_rfl⟩
theorem fn85 (g : List (List Int)) (ix lw : List Int) (on : List Bool) (st : List Int) (nx : Int) (se : List Int) (sn : Int) (s : List Int) (told : List Bool) {res : AV Ty} {outs : List (AV Ty)} (h : Ends C85 U85 (R85 g ix lw on st nx se sn s told) [.code b85] ⟨slotsA (a85 g ix lw on st nx se sn s told) 0 0, heapA (a85 g ix lw on st nx se sn s told)⟩ (some (res, outs))) : CallOk tb Try.prog 85 (a85 g ix lw on st nx se sn s told) res outs := by
  obtain ⟨n0, hn⟩ := h
  exact fn_ok (C := C85) (U := U85) (n := 0 + n0) (q := .keep) tbOk good (fun f mu S h => by cases h) mixed (fn := Try.f85) (body := b85) (by kernel_rfl) (by kernel_rfl) rfl rfl (by show 3 ≤ 72; omega) (hn 0)
section
variable {g : List (List Int)} {ix lw : List Int} {on : List Bool} {st : List Int} {nx : Int} {se : List Int} {sn : Int} {s : List Int} {told : List Bool}
theorem free_in (h : freeOk g se s told) {x : Int} (hx : 0 ≤ x ∧ x < g.length) {k : Nat} (hk : k < s.length) : ∀ (m i : Nat), i + m = (g.getD x.toNat []).length →
    ((∀ j, i ≤ j → j < (g.getD x.toNat []).length → wayOk g se told x ((g.getD x.toNat []).getD j 0)) ∧
      Goes C85 U85 (R85 g ix lw on st nx se sn s told) k85_l2 (s85_l2 g ix lw on st nx se sn s told [⟨g, ix, lw, on, st, nx, se, sn⟩] x s s.length k (g.getD x.toNat []) (g.getD x.toNat []).length i) k85_l0 (s85_l0 g ix lw on st nx se sn s told [⟨g, ix, lw, on, st, nx, se, sn⟩] s s.length (k + 1 : Nat))) ∨
    ((¬ ∀ j, i ≤ j → j < (g.getD x.toNat []).length → wayOk g se told x ((g.getD x.toNat []).getD j 0)) ∧
      Ends C85 U85 (R85 g ix lw on st nx se sn s told) k85_l2 (s85_l2 g ix lw on st nx se sn s told [⟨g, ix, lw, on, st, nx, se, sn⟩] x s s.length k (g.getD x.toNat []) (g.getD x.toNat []).length i) (some (yes false, [.dead, .dead, .dead])))
  | 0, i, hm => by
    obtain ⟨⟨h1, h2⟩, h3, h4, h5, h6⟩ := h
    refine .inl ⟨fun j _ _ => by omega, Goes.trans (.step fun J => ?_) (Goes.trans (.step fun J => e85_j2 J g ix lw on st nx se sn s told [⟨g, ix, lw, on, st, nx, se, sn⟩] s s.length k) (.step fun J => ?_))⟩
    · rw [e85_l2]
      simp (disch := first | omega | assumption | (rw [decide_eq_true_eq]; omega) | (rw [decide_eq_false_iff_not]; omega)) only [↓if_pos, ↓if_neg, if_true, if_false, wrap_up, Int.toNat_natCast, Nat.zero_add]
    · rw [e85_j1, wrap_up (by omega)]
      rfl
  | m + 1, i, hm => by
    have h' := h
    obtain ⟨⟨h1, h2⟩, h3, h4, h5, h6⟩ := h
    have hi : i < (g.getD x.toNat []).length := by omega
    have b2 := h2 _ (getD_in (d := []) (show x.toNat < g.length by omega))
    by_cases hw : wayOk g se told x ((g.getD x.toNat []).getD i 0)
    · have step : Goes C85 U85 (R85 g ix lw on st nx se sn s told) k85_l2 (s85_l2 g ix lw on st nx se sn s told [⟨g, ix, lw, on, st, nx, se, sn⟩] x s s.length k (g.getD x.toNat []) (g.getD x.toNat []).length i) k85_l2 (s85_l2 g ix lw on st nx se sn s told [⟨g, ix, lw, on, st, nx, se, sn⟩] x s s.length k (g.getD x.toNat []) (g.getD x.toNat []).length (i + 1 : Nat)) := .step fun J => by
        rw [e85_l2, Int.toNat_natCast]
        simp only [List.getD_cons_zero]
        by_cases c1 : 0 ≤ (g.getD x.toNat []).getD i 0
        · by_cases c2 : (g.getD x.toNat []).getD i 0 < g.length
          · by_cases c3 : se.getD ((g.getD x.toNat []).getD i 0).toNat 0 = se.getD x.toNat 0
            · have c4 : ¬ (se.getD ((g.getD x.toNat []).getD i 0).toNat 0 != se.getD x.toNat 0) = true := by rw [bne_iff_ne]; simpa using c3
              simp (disch := first | omega | assumption | (rw [decide_eq_true_eq]; omega) | (rw [decide_eq_false_iff_not]; omega)) only [↓if_pos, ↓if_neg, if_true, if_false, wrap_up, Int.toNat_natCast, Nat.zero_add, if_neg c4]
              rfl
            · have c4 : (se.getD ((g.getD x.toNat []).getD i 0).toNat 0 != se.getD x.toNat 0) = true := by rw [bne_iff_ne]; exact c3
              have c5 := hw c1 c2 c3
              have c6 := h6 _ (getD_in (d := 0) (show ((g.getD x.toNat []).getD i 0).toNat < se.length by omega))
              rw [c5]
              simp (disch := first | omega | assumption | (rw [decide_eq_true_eq]; omega) | (rw [decide_eq_false_iff_not]; omega)) only [↓if_pos, ↓if_neg, if_true, if_false, wrap_up, Int.toNat_natCast, Nat.zero_add, Bool.not_true, Bool.false_eq_true]
              rfl
          · simp (disch := first | omega | assumption | (rw [decide_eq_true_eq]; omega) | (rw [decide_eq_false_iff_not]; omega)) only [↓if_pos, ↓if_neg, if_true, if_false, wrap_up, Int.toNat_natCast, Nat.zero_add]
            rfl
        · simp (disch := first | omega | assumption | (rw [decide_eq_true_eq]; omega) | (rw [decide_eq_false_iff_not]; omega)) only [↓if_pos, ↓if_neg, if_true, if_false, wrap_up, Int.toNat_natCast, Nat.zero_add]
          rfl
      rcases free_in h' hx hk m (i + 1) (by omega) with ⟨k1, k2⟩ | ⟨k1, k2⟩
      · refine .inl ⟨fun j h1 h2 => ?_, step.trans k2⟩
        rcases Nat.eq_or_lt_of_le h1 with e | e
        · rw [← e]; exact hw
        · exact k1 j e h2
      · exact .inr ⟨fun hall => k1 fun j h1 h2 => hall j (by omega) h2, step.ends k2⟩
    · refine .inr ⟨fun hall => hw (hall i (Nat.le_refl _) hi), .step fun J => ?_⟩
      unfold wayOk at hw
      simp only [Classical.not_imp] at hw
      obtain ⟨c1, c2, c3, c5⟩ := hw
      have c4 : (se.getD ((g.getD x.toNat []).getD i 0).toNat 0 != se.getD x.toNat 0) = true := by rw [bne_iff_ne]; exact c3
      have c6 := h6 _ (getD_in (d := 0) (show ((g.getD x.toNat []).getD i 0).toNat < se.length by omega))
      rw [e85_l2, Int.toNat_natCast]
      simp only [List.getD_cons_zero]
      rw [Bool.not_eq_true] at c5
      rw [c5]
      simp (disch := first | omega | assumption | (rw [decide_eq_true_eq]; omega) | (rw [decide_eq_false_iff_not]; omega)) only [↓if_pos, ↓if_neg, if_true, if_false, wrap_up, Int.toNat_natCast, Nat.zero_add, Bool.not_false]
      rfl
theorem free_go (h : freeOk g se s told) : ∀ (m k : Nat), k + m = s.length →
    ((∀ j, k ≤ j → j < s.length → ∀ y, y ∈ g.getD (s.getD j 0).toNat [] → wayOk g se told (s.getD j 0) y) ∧ Ends C85 U85 (R85 g ix lw on st nx se sn s told) k85_l0 (s85_l0 g ix lw on st nx se sn s told [⟨g, ix, lw, on, st, nx, se, sn⟩] s s.length k) (some (yes true, [.dead, .dead, .dead]))) ∨
    ((¬ ∀ j, k ≤ j → j < s.length → ∀ y, y ∈ g.getD (s.getD j 0).toNat [] → wayOk g se told (s.getD j 0) y) ∧ Ends C85 U85 (R85 g ix lw on st nx se sn s told) k85_l0 (s85_l0 g ix lw on st nx se sn s told [⟨g, ix, lw, on, st, nx, se, sn⟩] s s.length k) (some (yes false, [.dead, .dead, .dead])))
  | 0, k, hm => by
    refine .inl ⟨fun j _ _ => by omega, Goes.ends (.step fun J => ?_) (.step fun J => e85_j0 J g ix lw on st nx se sn s told)⟩
    rw [e85_l0]
    simp (disch := first | omega | assumption | (rw [decide_eq_true_eq]; omega) | (rw [decide_eq_false_iff_not]; omega)) only [↓if_pos, ↓if_neg, if_true, if_false, wrap_up, Int.toNat_natCast, Nat.zero_add]
  | m + 1, k, hm => by
    have hk : k < s.length := by omega
    have hx := h.2.2.2.1 _ (getD_in (d := 0) hk)
    have h4 := h.2.2.1
    have step : Goes C85 U85 (R85 g ix lw on st nx se sn s told) k85_l0 (s85_l0 g ix lw on st nx se sn s told [⟨g, ix, lw, on, st, nx, se, sn⟩] s s.length k) k85_l2 (s85_l2 g ix lw on st nx se sn s told [⟨g, ix, lw, on, st, nx, se, sn⟩] (s.getD k 0) s s.length k (g.getD (s.getD k 0).toNat []) (g.getD (s.getD k 0).toNat []).length (0 : Nat)) := .step fun J => by
      rw [e85_l0, Int.toNat_natCast]
      simp only [List.getD_cons_zero]
      simp (disch := first | omega | assumption | (rw [decide_eq_true_eq]; omega) | (rw [decide_eq_false_iff_not]; omega)) only [↓if_pos, ↓if_neg, if_true, if_false, wrap_up, Int.toNat_natCast, Nat.zero_add]
      rfl
    have all : (∀ j, 0 ≤ j → j < (g.getD (s.getD k 0).toNat []).length → wayOk g se told (s.getD k 0) ((g.getD (s.getD k 0).toNat []).getD j 0)) ↔ ∀ y, y ∈ g.getD (s.getD k 0).toNat [] → wayOk g se told (s.getD k 0) y :=
      ⟨fun h y hy => by obtain ⟨j, hj, e⟩ := mem_getD 0 hy; rw [← e]; exact h j (Nat.zero_le _) hj, fun h j _ hj => h _ (getD_in hj)⟩
    rcases free_in (ix := ix) (lw := lw) (on := on) (st := st) (nx := nx) (sn := sn) h hx hk _ 0 (Nat.zero_add _) with ⟨k1, k2⟩ | ⟨k1, k2⟩
    · rcases free_go h m (k + 1) (by omega) with ⟨k3, k4⟩ | ⟨k3, k4⟩
      · refine .inl ⟨fun j h1 h2 => ?_, step.ends (k2.ends k4)⟩
        rcases Nat.eq_or_lt_of_le h1 with e | e
        · rw [← e]; exact all.1 k1
        · exact k3 j e h2
      · exact .inr ⟨fun hall => k3 fun j h1 h2 => hall j (by omega) h2, step.ends (k2.ends k4)⟩
    · exact .inr ⟨fun hall => k1 (all.2 (hall k (Nat.le_refl _) hk)), step.ends k2⟩
end
theorem free_ok (g : List (List Int)) (ix lw : List Int) (on : List Bool) (st : List Int) (nx : Int) (se : List Int) (sn : Int) (s : List Int) (told : List Bool) (h : freeOk g se s told) :
    CallOk tb Try.prog 85 (a85 g ix lw on st nx se sn s told) (yes (freeB g se s told)) [.dead, .dead, .dead] := by
  refine fn85 g ix lw on st nx se sn s told (Goes.ends (.step fun J => e85 J g ix lw on st nx se sn s told) ?_)
  have all : (∀ j, 0 ≤ j → j < s.length → ∀ y, y ∈ g.getD (s.getD j 0).toNat [] → wayOk g se told (s.getD j 0) y) ↔ freeP g se s told :=
    ⟨fun h x hx => by obtain ⟨j, hj, e⟩ := mem_getD 0 hx; rw [← e]; exact h j (Nat.zero_le _) hj, fun h j _ hj => h _ (getD_in hj)⟩
  classical
  have fb : freeB g se s told = decide (freeP g se s told) := by unfold freeB; congr
  rw [fb]
  rcases free_go (ix := ix) (lw := lw) (on := on) (st := st) (nx := nx) (sn := sn) h _ 0 (Nat.zero_add _) with ⟨k1, k2⟩ | ⟨k1, k2⟩
  · rw [decide_eq_true (all.1 k1)]; exact k2
  · rw [decide_eq_false fun hp => k1 (all.2 hp)]; exact k2
noncomputable def S85 : List (AV Ty) → T (AV Ty × List (AV Ty))
  | [.rp 104 [⟨g, ix, lw, on, st, nx, se, sn⟩] 0 0, .sl false 3 s, .sl false 4 told] => .ite (freeOk g se s told) (freeOk.dec g se s told) (.ret (yes (freeB g se s told), [.dead, .dead, .dead])) .fail
  | _ => .fail
theorem S85_ok (l : List (AV Ty)) (r : AV Ty) (outs : List (AV Ty)) (h : (S85 l).val = some (r, outs)) : CallOk tb Try.prog 85 l r outs := by
  unfold S85 at h
  split at h
  · rcases ite_val h with ⟨e, h⟩ | ⟨_, h⟩
    · cases h; exact free_ok _ _ _ _ _ _ _ _ _ _ e
    · cases h
  · cases h
end Go.Proofs.Ytggibjbcbicpjaa.Ev
