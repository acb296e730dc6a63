/- scc.tarjan: open, shut, free. -/
import Derived.Test.YtggibjbcbicpjaaSccC
namespace Go.Proofs.Ytggibjbcbicpjaa.Ev
open Go
set_option linter.unusedVariables false
set_option linter.unusedSimpArgs false
def openOk (ix lw : List Int) (on : List Bool) (st : List Int) (nx v : Int) : Prop := 0 ≤ v ∧ v < ix.length ∧ v < lw.length ∧ v < on.length ∧ st.length ≤ 1000000 ∧ 0 ≤ nx ∧ nx ≤ 1000000
instance openOk.dec (ix lw : List Int) (on : List Bool) (st : List Int) (nx v : Int) : Decidable (openOk ix lw on st nx v) := by unfold openOk; infer_instance
noncomputable def b132 : Code := bodyOf Try.f132
noncomputable def C132 : Cfg Ty := ⟨fun _ => none, fun _ => false, 47, 1⟩
def U132 : Cuts := ⟨fun _ => none, fun _ => none, fun _ => none⟩
def a132 (g : List (List Int)) (ix : List Int) (lw : List Int) (on : List Bool) (st : List Int) (nx : Int) (se : List Int) (sn : Int) (v : Int) : List (AV Ty) := [.box true (104 : Nat) (Tarjan.mk g ix lw on st nx se sn), .v (.int .i64 v)]
noncomputable def R132 (g : List (List Int)) (ix : List Int) (lw : List Int) (on : List Bool) (st : List Int) (nx : Int) (se : List Int) (sn : Int) (v : Int) : St Ty → EvR := resT tb C132 Try.f132.results.toList .keep (a132 g ix lw on st nx se sn v)
theorem e132 (J : List Item → St Ty → EvR) (g : List (List Int)) (ix : List Int) (lw : List Int) (on : List Bool) (st : List Int) (nx : Int) (se : List Int) (sn : Int) (v : Int) : run tb C132 U132 J (R132 g ix lw on st nx se sn v) 4096 [.code b132] ⟨slotsA (a132 g ix lw on st nx se sn v) 0 0, heapA (a132 g ix lw on st nx se sn v)⟩ =
    if (0 : Int) ≤ v then
     if v < (↑ix.length : Int) then
      if (0 : Int) ≤ v then
       if v < (↑lw.length : Int) then
        if (0 : Int) ≤ v then
         if v < (↑on.length : Int) then
          if st.length + [v].length + (1 : Nat) ≤ (549755813888 : Nat) ∧ (st.length + [v].length + (1 : Nat)) * (8 : Nat) ≤ (549755813888 : Nat) then
           some (.tup [], [.box true (104 : Nat) (Tarjan.mk g (ix.set ((0 : Nat) + v.toNat) (IntKind.i64.wrap (nx + (1 : Int)))) (lw.set ((0 : Nat) + v.toNat) (IntKind.i64.wrap (nx + (1 : Int)))) (on.set ((0 : Nat) + v.toNat) true) (st ++ [v]) (IntKind.i64.wrap (nx + (1 : Int))) se sn), .dead])
          else
           none
         else
          none
        else
         none
       else
        none
      else
       none
     else
      none
    else
     none := by kernel_rfl

theorem in132 : Entered 132 := ⟨Try.f132, b132, by kernel_rfl, by kernel_rfl, by kernel_rfl⟩
theorem fn132 (g : List (List Int)) (ix lw : List Int) (on : List Bool) (st : List Int) (nx : Int) (se : List Int) (sn : Int) (v : Int) {res : AV Ty} {outs : List (AV Ty)} (h : Ends C132 U132 (R132 g ix lw on st nx se sn v) [.code b132] ⟨slotsA (a132 g ix lw on st nx se sn v) 0 0, heapA (a132 g ix lw on st nx se sn v)⟩ (some (res, outs))) : CallOk tb Try.prog 132 (a132 g ix lw on st nx se sn v) res outs := by
  obtain ⟨n0, hn⟩ := h
  exact fn_ok (C := C132) (U := U132) (n := 0 + n0) (q := .keep) tbOk good (fun f mu S h => by cases h) mixed (fn := Try.f132) (body := b132) (by kernel_rfl) (by kernel_rfl) rfl rfl (by show 2 ≤ 47; omega) (hn 0)
theorem opn_ok (g : List (List Int)) (ix lw : List Int) (on : List Bool) (st : List Int) (nx : Int) (se : List Int) (sn : Int) (v : Int) (h : openOk ix lw on st nx v) :
    CallOk tb Try.prog 132 (a132 g ix lw on st nx se sn v) (.tup []) [.box true 104 (⟨g, ix.set v.toNat (nx + 1), lw.set v.toNat (nx + 1), on.set v.toNat true, st ++ [v], nx + 1, se, sn⟩ : Ev.Tarjan), .dead] := by
  obtain ⟨h1, h2, h3, h4, h5, h6, h7⟩ := h
  refine fn132 g ix lw on st nx se sn v (.step fun J => ?_)
  rw [e132]
  simp (disch := first | omega | assumption | (rw [decide_eq_true_eq]; omega) | (rw [decide_eq_false_iff_not]; omega)) only [↓if_pos, ↓if_neg, if_true, if_false, wrap_up, Int.toNat_natCast, Nat.zero_add, List.length_singleton]
def S132 : List (AV Ty) → T (AV Ty × List (AV Ty))
  | [.box true 104 ⟨g, ix, lw, on, st, nx, se, sn⟩, .v (.int .i64 v)] => .ite (openOk ix lw on st nx v) (openOk.dec ix lw on st nx v) (.ret (.tup [], [.box true 104 (⟨g, ix.set v.toNat (nx + 1), lw.set v.toNat (nx + 1), on.set v.toNat true, st ++ [v], nx + 1, se, sn⟩ : Ev.Tarjan), .dead])) .fail
  | _ => .fail
theorem S132_ok (l : List (AV Ty)) (r : AV Ty) (outs : List (AV Ty)) (h : (S132 l).val = some (r, outs)) : CallOk tb Try.prog 132 l r outs := by
  unfold S132 at h
  split at h
  · rcases ite_val h with ⟨e, h⟩ | ⟨_, h⟩
    · cases h; exact opn_ok _ _ _ _ _ _ _ _ _ e
    · cases h
  · cases h
/-- The same value at many places. -/
def setAll {α : Type} (l : List α) (ws : List Int) (x : α) : List α := ws.foldr (fun w l => l.set w.toNat x) l
theorem setAll_len {α : Type} {l : List α} {x : α} (ws : List Int) : (setAll l ws x).length = l.length := by
  unfold setAll
  induction ws with
  | nil => rfl
  | cons w ws ih => rw [List.foldr_cons, List.length_set, ih]
theorem setAll_get {α : Type} {l : List α} {x d : α} : ∀ (ws : List Int), (∀ w, w ∈ ws → 0 ≤ w ∧ w < l.length) → ∀ j : Nat, (setAll l ws x).getD j d = if (j : Int) ∈ ws then x else l.getD j d
  | [], _, j => by simp [setAll]
  | w :: ws, h, j => by
    have hw := h w List.mem_cons_self
    show ((setAll l ws x).set w.toNat x).getD j d = _
    rw [getD_set' (by rw [setAll_len]; omega), setAll_get ws (fun y hy => h y (List.mem_cons_of_mem _ hy)) j]
    by_cases e : w.toNat = j
    · rw [if_pos e, if_pos (by rw [← e, Int.toNat_of_nonneg hw.1]; exact List.mem_cons_self)]
    · rw [if_neg e]
      by_cases e2 : (j : Int) ∈ ws
      · rw [if_pos e2, if_pos (List.mem_cons_of_mem _ e2)]
      · rw [if_neg e2, if_neg fun h => by
          rcases List.mem_cons.1 h with h | h
          · omega
          · exact e2 h]
def shutAt (st : List Int) (v : Int) : Nat := st.findIdx (fun x => x == v)
theorem shutAt_lt {st : List Int} {v : Int} (h : v ∈ st) : shutAt st v < st.length := by
  unfold shutAt
  exact List.findIdx_lt_length_of_exists ⟨v, h, by simp⟩
theorem shutAt_get {st : List Int} {v : Int} (h : v ∈ st) : st.getD (shutAt st v) 0 = v := by
  have h1 := shutAt_lt h
  have := List.findIdx_getElem (xs := st) (p := fun x => x == v) (w := h1)
  rw [List.getD_eq_getElem?_getD, List.getElem?_eq_getElem h1]
  exact beq_iff_eq.1 this
def shutOk (on : List Bool) (st se : List Int) (sn v : Int) : Prop := v ∈ st ∧ st.Nodup ∧ (∀ w, w ∈ st → 0 ≤ w ∧ w < on.length ∧ w < se.length) ∧ st.length ≤ 1000000 ∧ 0 ≤ sn ∧ sn ≤ 1000000
noncomputable instance shutOk.dec (on : List Bool) (st se : List Int) (sn v : Int) : Decidable (shutOk on st se sn v) := Classical.propDecidable _
noncomputable def b133 : Code := bodyOf Try.f133
noncomputable def C133 : Cfg Ty := ⟨fun _ => none, fun _ => false, 57, 1⟩
def U133 : Cuts := ⟨fun
  | 0 => some [(0, none)]
  | _ => none, fun
  | 0 => some [(0, none), (1, none)]
  | _ => none, fun _ => none⟩
/-- join 0: live: 0 -/
noncomputable def k133_j0 : List Item := [.code (sndC b133)]
/-- loop 0: live: 0, 1 -/
noncomputable def k133_l0 : List Item := [.code (inC (inC (fstC b133))), .inLoop (inC (inC (fstC b133))), .inBlock 0, .code (sndC b133)]
def a133 (g : List (List Int)) (ix : List Int) (lw : List Int) (on : List Bool) (st : List Int) (nx : Int) (se : List Int) (sn : Int) (v : Int) : List (AV Ty) := [.box true (104 : Nat) (Tarjan.mk g ix lw on st nx se sn), .v (.int .i64 v)]
noncomputable def R133 (g : List (List Int)) (ix : List Int) (lw : List Int) (on : List Bool) (st : List Int) (nx : Int) (se : List Int) (sn : Int) (v : Int) : St Ty → EvR := resT tb C133 Try.f133.results.toList .keep (a133 g ix lw on st nx se sn v)
def s133_l0 (g : List (List Int)) (ix : List Int) (lw : List Int) (on : List Bool) (st : List Int) (nx : Int) (se : List Int) (sn : Int) (v : Int) (h0 : List (List Int)) (h0_1 : List Int) (h0_2 : List Int) (h0_3 : List Bool) (h0_4 : List Int) (h0_5 : Int) (h0_6 : List Int) (h0_7 : Int) : St Ty := St.mk [(0, .ptr (0) [] (0) (0)), (1, .v (.int .i64 v))] [some (Root.mk (104) true [Tarjan.mk h0 h0_1 h0_2 h0_3 h0_4 h0_5 h0_6 h0_7])]
def s133_j0 (g : List (List Int)) (ix : List Int) (lw : List Int) (on : List Bool) (st : List Int) (nx : Int) (se : List Int) (sn : Int) (v : Int) (h0 : List (List Int)) (h0_1 : List Int) (h0_2 : List Int) (h0_3 : List Bool) (h0_4 : List Int) (h0_5 : Int) (h0_6 : List Int) (h0_7 : Int) : St Ty := St.mk [(0, .ptr (0) [] (0) (0))] [some (Root.mk (104) true [Tarjan.mk h0 h0_1 h0_2 h0_3 h0_4 h0_5 h0_6 h0_7])]
theorem e133 (J : List Item → St Ty → EvR) (g : List (List Int)) (ix : List Int) (lw : List Int) (on : List Bool) (st : List Int) (nx : Int) (se : List Int) (sn : Int) (v : Int) : run tb C133 U133 J (R133 g ix lw on st nx se sn v) 4096 [.code b133] ⟨slotsA (a133 g ix lw on st nx se sn v) 0 0, heapA (a133 g ix lw on st nx se sn v)⟩ =
    J k133_l0 (s133_l0 g ix lw on st nx se sn v (g) (ix) (lw) (on) (st) (nx) (se) (sn)) := by kernel_rfl
theorem e133_l0 (J : List Item → St Ty → EvR) (g : List (List Int)) (ix : List Int) (lw : List Int) (on : List Bool) (st : List Int) (nx : Int) (se : List Int) (sn : Int) (v : Int) (h0 : List (List Int)) (h0_1 : List Int) (h0_2 : List Int) (h0_3 : List Bool) (h0_4 : List Int) (h0_5 : Int) (h0_6 : List Int) (h0_7 : Int) : run tb C133 U133 J (R133 g ix lw on st nx se sn v) 4096 k133_l0 (s133_l0 g ix lw on st nx se sn v h0 h0_1 h0_2 h0_3 h0_4 h0_5 h0_6 h0_7) =
    if (0 : Int) ≤ IntKind.i64.wrap ((↑h0_4.length : Int) - (1 : Int)) then
     if IntKind.i64.wrap ((↑h0_4.length : Int) - (1 : Int)) < (↑h0_4.length : Int) then
      if (0 : Int) ≤ (0 : Int) ∧ (0 : Int) ≤ IntKind.i64.wrap ((↑h0_4.length : Int) - (1 : Int)) ∧ IntKind.i64.wrap ((↑h0_4.length : Int) - (1 : Int)) ≤ (↑h0_4.length : Int) then
       if (0 : Int) ≤ h0_4.getD ((0 : Nat) + (IntKind.i64.wrap ((↑h0_4.length : Int) - (1 : Int))).toNat) (0 : Int) then
        if h0_4.getD ((0 : Nat) + (IntKind.i64.wrap ((↑h0_4.length : Int) - (1 : Int))).toNat) (0 : Int) < (↑h0_3.length : Int) then
         if (0 : Int) ≤ h0_4.getD ((0 : Nat) + (IntKind.i64.wrap ((↑h0_4.length : Int) - (1 : Int))).toNat) (0 : Int) then
          if h0_4.getD ((0 : Nat) + (IntKind.i64.wrap ((↑h0_4.length : Int) - (1 : Int))).toNat) (0 : Int) < (↑h0_6.length : Int) then
           if (h0_4.getD ((0 : Nat) + (IntKind.i64.wrap ((↑h0_4.length : Int) - (1 : Int))).toNat) (0 : Int) == v) = true then
            J k133_j0 (s133_j0 g ix lw on st nx se sn v (h0) (h0_1) (h0_2) (h0_3.set ((0 : Nat) + Int.toNat (h0_4.getD ((0 : Nat) + (IntKind.i64.wrap ((↑h0_4.length : Int) - (1 : Int))).toNat) (0 : Int))) false) (List.take ((IntKind.i64.wrap ((↑h0_4.length : Int) - (1 : Int))).toNat - Int.toNat (0 : Int)) (List.drop ((0 : Nat) + Int.toNat (0 : Int)) h0_4)) (h0_5) (h0_6.set ((0 : Nat) + Int.toNat (h0_4.getD ((0 : Nat) + (IntKind.i64.wrap ((↑h0_4.length : Int) - (1 : Int))).toNat) (0 : Int))) h0_7) (h0_7))
           else
            J k133_l0 (s133_l0 g ix lw on st nx se sn v (h0) (h0_1) (h0_2) (h0_3.set ((0 : Nat) + Int.toNat (h0_4.getD ((0 : Nat) + (IntKind.i64.wrap ((↑h0_4.length : Int) - (1 : Int))).toNat) (0 : Int))) false) (List.take ((IntKind.i64.wrap ((↑h0_4.length : Int) - (1 : Int))).toNat - Int.toNat (0 : Int)) (List.drop ((0 : Nat) + Int.toNat (0 : Int)) h0_4)) (h0_5) (h0_6.set ((0 : Nat) + Int.toNat (h0_4.getD ((0 : Nat) + (IntKind.i64.wrap ((↑h0_4.length : Int) - (1 : Int))).toNat) (0 : Int))) h0_7) (h0_7))
          else
           none
         else
          none
        else
         none
       else
        none
      else
       none
     else
      none
    else
     none := by kernel_rfl
theorem e133_j0 (J : List Item → St Ty → EvR) (g : List (List Int)) (ix : List Int) (lw : List Int) (on : List Bool) (st : List Int) (nx : Int) (se : List Int) (sn : Int) (v : Int) (h0 : List (List Int)) (h0_1 : List Int) (h0_2 : List Int) (h0_3 : List Bool) (h0_4 : List Int) (h0_5 : Int) (h0_6 : List Int) (h0_7 : Int) : run tb C133 U133 J (R133 g ix lw on st nx se sn v) 4096 k133_j0 (s133_j0 g ix lw on st nx se sn v h0 h0_1 h0_2 h0_3 h0_4 h0_5 h0_6 h0_7) =
    some (.tup [], [.box true (104) (Tarjan.mk h0 h0_1 h0_2 h0_3 h0_4 h0_5 h0_6 (IntKind.i64.wrap (h0_7 + (1 : Int)))), .dead]) := by kernel_rfl

theorem in133 : Entered 133 := ⟨Try.f133, b133, by kernel_rfl, by kernel_rfl, by kernel_rfl⟩
theorem fn133 (g : List (List Int)) (ix lw : List Int) (on : List Bool) (st : List Int) (nx : Int) (se : List Int) (sn : Int) (v : Int) {res : AV Ty} {outs : List (AV Ty)} (h : Ends C133 U133 (R133 g ix lw on st nx se sn v) [.code b133] ⟨slotsA (a133 g ix lw on st nx se sn v) 0 0, heapA (a133 g ix lw on st nx se sn v)⟩ (some (res, outs))) : CallOk tb Try.prog 133 (a133 g ix lw on st nx se sn v) res outs := by
  obtain ⟨n0, hn⟩ := h
  exact fn_ok (C := C133) (U := U133) (n := 0 + n0) (q := .keep) tbOk good (fun f mu S h => by cases h) mixed (fn := Try.f133) (body := b133) (by kernel_rfl) (by kernel_rfl) rfl rfl (by show 2 ≤ 57; omega) (hn 0)
section
variable {g : List (List Int)} {ix lw : List Int} {on : List Bool} {st : List Int} {nx : Int} {se : List Int} {sn : Int} {v : Int}
theorem take_last {st : List Int} {m : Nat} (h : m < st.length) : (st.take (m + 1)).getD m 0 = st.getD m 0 := by
  simp [List.getD_eq_getElem?_getD, List.getElem?_take]
theorem drop_at {st : List Int} {m : Nat} (h : m < st.length) : st.drop m = st.getD m 0 :: st.drop (m + 1) := by
  rw [List.drop_eq_getElem_cons h, List.getD_eq_getElem?_getD, List.getElem?_eq_getElem h]
  rfl
theorem nodup_get {st : List Int} (hn : st.Nodup) {i j : Nat} (hi : i < st.length) (hj : j < st.length) (e : st.getD i 0 = st.getD j 0) : i = j := by
  rw [List.getD_eq_getElem?_getD, List.getD_eq_getElem?_getD, List.getElem?_eq_getElem hi, List.getElem?_eq_getElem hj] at e
  exact (List.getElem_inj hn).1 e
theorem shut_go (h : shutOk on st se sn v) : ∀ (d m : Nat), m + 1 = shutAt st v + 1 + d → m + 1 ≤ st.length →
    Goes C133 U133 (R133 g ix lw on st nx se sn v) k133_l0 (s133_l0 g ix lw on st nx se sn v g ix lw (setAll on (st.drop (m + 1)) false) (st.take (m + 1)) nx (setAll se (st.drop (m + 1)) sn) sn)
      k133_j0 (s133_j0 g ix lw on st nx se sn v g ix lw (setAll on (st.drop (shutAt st v)) false) (st.take (shutAt st v)) nx (setAll se (st.drop (shutAt st v)) sn) sn)
  | d, m, hm, hl => by
    obtain ⟨h1, h2, h3, h4, h5, h6⟩ := h
    have hlen : (st.take (m + 1)).length = m + 1 := by rw [List.length_take]; omega
    have hs : ((m + 1 : Nat) : Int) - 1 = (m : Nat) := by omega
    have hb := h3 _ (getD_in (d := 0) (show m < st.length by omega))
    have ha := shutAt_get h1
    have e1 : ∀ (k : List Item) (s : St Ty), (∀ J : List Item → St Ty → EvR, (if (st.getD m 0 == v) = true then J k133_j0 (s133_j0 g ix lw on st nx se sn v g ix lw (setAll on (st.drop m) false) (st.take m) nx (setAll se (st.drop m) sn) sn) else J k133_l0 (s133_l0 g ix lw on st nx se sn v g ix lw (setAll on (st.drop m) false) (st.take m) nx (setAll se (st.drop m) sn) sn)) = J k s) →
        Goes C133 U133 (R133 g ix lw on st nx se sn v) k133_l0 (s133_l0 g ix lw on st nx se sn v g ix lw (setAll on (st.drop (m + 1)) false) (st.take (m + 1)) nx (setAll se (st.drop (m + 1)) sn) sn) k s := fun k s hJ => .step fun J => by
      have l1 : (setAll on (st.drop (m + 1)) false).length = on.length := setAll_len _
      have l2 : (setAll se (st.drop (m + 1)) sn).length = se.length := setAll_len _
      rw [e133_l0, hlen, hs, wrap_up (by omega), Int.toNat_natCast, Nat.zero_add, take_last (by omega), l1, l2]
      simp (disch := first | omega | assumption | (rw [decide_eq_true_eq]; omega) | (rw [decide_eq_false_iff_not]; omega)) only [↓if_pos, ↓if_neg, if_true, if_false, wrap_up, Int.toNat_natCast, Nat.zero_add, Int.toNat_zero, List.drop_zero, Nat.sub_zero]
      rw [← hJ J, drop_at (st := st) (m := m) (by omega), List.take_take, Nat.min_eq_left (by omega)]
      rfl
    by_cases e : m = shutAt st v
    · subst e
      exact e1 _ _ fun J => by rw [ha, if_pos (by simp)]
    · cases d with
      | zero => omega
      | succ d =>
        refine (e1 _ _ fun J => ?_).trans (shut_go ⟨h1, h2, h3, h4, h5, h6⟩ d (m - 1) (by omega) (by omega))
        rw [if_neg fun he => e (nodup_get h2 (by omega) (shutAt_lt h1) ((beq_iff_eq.1 he).trans ha.symm)), show m - 1 + 1 = m by omega]
end
noncomputable def shutT (g : List (List Int)) (ix lw : List Int) (on : List Bool) (st : List Int) (nx : Int) (se : List Int) (sn v : Int) : Ev.Tarjan := ⟨g, ix, lw, setAll on (st.drop (shutAt st v)) false, st.take (shutAt st v), nx, setAll se (st.drop (shutAt st v)) sn, sn + 1⟩
theorem shut_ok (g : List (List Int)) (ix lw : List Int) (on : List Bool) (st : List Int) (nx : Int) (se : List Int) (sn : Int) (v : Int) (h : shutOk on st se sn v) :
    CallOk tb Try.prog 133 (a133 g ix lw on st nx se sn v) (.tup []) [.box true 104 (⟨g, ix, lw, setAll on (st.drop (shutAt st v)) false, st.take (shutAt st v), nx, setAll se (st.drop (shutAt st v)) sn, sn + 1⟩ : Ev.Tarjan), .dead] := by
  refine fn133 g ix lw on st nx se sn v (Goes.ends (.step fun J => e133 J g ix lw on st nx se sn v) ?_)
  have hl := shutAt_lt h.1
  have key := shut_go (g := g) (ix := ix) (lw := lw) (nx := nx) h (st.length - 1 - shutAt st v) (st.length - 1) (by omega) (by omega)
  rw [show st.length - 1 + 1 = st.length by omega, List.drop_length, List.take_length] at key
  refine key.ends (.step fun J => ?_)
  obtain ⟨_, _, _, _, h5, h6⟩ := h
  rw [e133_j0, wrap_up (by omega)]
noncomputable def S133 : List (AV Ty) → T (AV Ty × List (AV Ty))
  | [.box true 104 ⟨g, ix, lw, on, st, nx, se, sn⟩, .v (.int .i64 v)] => .ite (shutOk on st se sn v) (shutOk.dec on st se sn v) (.ret (.tup [], [.box true 104 (⟨g, ix, lw, setAll on (st.drop (shutAt st v)) false, st.take (shutAt st v), nx, setAll se (st.drop (shutAt st v)) sn, sn + 1⟩ : Ev.Tarjan), .dead])) .fail
  | _ => .fail
theorem S133_ok (l : List (AV Ty)) (r : AV Ty) (outs : List (AV Ty)) (h : (S133 l).val = some (r, outs)) : CallOk tb Try.prog 133 l r outs := by
  unfold S133 at h
  split at h
  · rcases ite_val h with ⟨e, h⟩ | ⟨_, h⟩
    · cases h; exact shut_ok _ _ _ _ _ _ _ _ _ e
    · cases h
  · cases h
end Go.Proofs.Ytggibjbcbicpjaa.Ev
