/- plnlaw3.IrApart answers true. -/
import Derived.Test.YtggibjbcbicpjaaIrQ
import Derived.Test.YtggibjbcbicpjaaIrI
import Derived.Test.YtggibjbcbicpjaaIrJ
namespace Go.Proofs.Ytggibjbcbicpjaa.Ev
open Go
set_option linter.unusedVariables false
set_option linter.unusedSimpArgs false
noncomputable def b6 : Code := bodyOf Try.f6
noncomputable def C6 : Cfg Ty := ⟨fun
  | 24 => some ([], S24)
  | 33 => some ([], S33)
  | 34 => some ([], S34)
  | 35 => some ([], S35)
  | 36 => some ([true], S36)
  | 26 => some ([], S26)
  | 37 => some ([], S37)
  | _ => none, fun
  | 3 => true
  | 4 => true
  | 5 => true
  | 34 => true
  | 400019 => true
  | _ => false, 45, 0⟩
def U6 : Cuts := ⟨fun
  | 0 => some [(1, none), (3, none), (5, none)]
  | _ => none, fun
  | 0 => some [(1, none), (3, none), (5, none), (6, none)]
  | _ => none, fun
  | 6 => some [0, 2, 1000, 1, 3, 4, 5, 1000, 6, 7]
  | _ => none⟩
/-- join 0: live: 1, 3, 5 -/
noncomputable def k6_j0 : List Item := [.code (sndC (sndC (sndC (sndC (sndC (sndC (sndC b6)))))))]
/-- loop 0: live: 1, 3, 5, 6 -/
noncomputable def k6_l0 : List Item := [.code (inC (inC (sndC (fstC (sndC (sndC (sndC (sndC (sndC (sndC b6)))))))))), .inLoop (inC (inC (sndC (fstC (sndC (sndC (sndC (sndC (sndC (sndC b6)))))))))), .inBlock 0, .code (sndC (sndC (sndC (sndC (sndC (sndC (sndC b6)))))))]
def a6 (m : Module) : List (AV Ty) := [.agg [.sl false (91 : Nat) m.externs, .sl false (94 : Nat) m.globals, .sl false (96 : Nat) m.tables, .sl false (33 : Nat) m.funcs]]
noncomputable def R6 (m : Module) : St Ty → EvR := resT tb C6 Try.f6.results.toList .keep (a6 m)
def s6_l0 (m : Module) (v6 : Int) (h0 : List Module) (h1 : List Extern) (h1_1 : List Global) (h1_2 : List Table) (h1_3 : List Func) (h2 : List Extern) (h2_1 : List Global) (h2_2 : List Table) (h2_3 : List Func) : St Ty := St.mk [(1, .ptr (0) [] (0) (0)), (3, .ptr (1) [] (0) (0)), (5, .ptr (2) [] (0) (0)), (6, .v (.int .i64 v6))] [some (Root.mk (27) false h0), some (Root.mk (27) true [Module.mk h1 h1_1 h1_2 h1_3]), some (Root.mk (27) true [Module.mk h2 h2_1 h2_2 h2_3])]
def s6_j0 (m : Module) (h0 : List Module) (h1 : List Extern) (h1_1 : List Global) (h1_2 : List Table) (h1_3 : List Func) (h2 : List Extern) (h2_1 : List Global) (h2_2 : List Table) (h2_3 : List Func) : St Ty := St.mk [(1, .ptr (0) [] (0) (0)), (3, .ptr (1) [] (0) (0)), (5, .ptr (2) [] (0) (0))] [some (Root.mk (27) false h0), some (Root.mk (27) true [Module.mk h1 h1_1 h1_2 h1_3]), some (Root.mk (27) true [Module.mk h2 h2_1 h2_2 h2_3])]
theorem e6 (J : List Item → St Ty → EvR) (m : Module) : run tb C6 U6 J (R6 m) 4096 [.code b6] ⟨slotsA (a6 m) 0 0, heapA (a6 m)⟩ =
    if wideM (Module.mk m.externs m.globals m.tables m.funcs) then
     if (!smallB (Module.mk m.externs m.globals m.tables m.funcs)) = true then
      some (.v (.bool true), [.dead])
     else
      if okM (Module.mk m.externs m.globals m.tables m.funcs) then
       meet (
        if okM (Module.mk m.externs m.globals m.tables m.funcs) then
         meet (
          if okM (Module.mk m.externs m.globals m.tables m.funcs) then
           meet (
            if okM (Module.mk m.externs m.globals m.tables m.funcs) then
             J k6_l0 (s6_l0 m (0 : Int) ([Module.mk m.externs m.globals m.tables m.funcs]) (m.externs) (m.globals) (m.tables) (m.funcs) (m.externs) (m.globals) (m.tables) (m.funcs))
            else
             none
           ) (
            if okM (Module.mk m.externs m.globals m.tables m.funcs) then
             J k6_l0 (s6_l0 m (0 : Int) ([Module.mk m.externs m.globals m.tables m.funcs]) (m.externs) (m.globals) (m.tables) (m.funcs) (m.externs) (m.globals) (m.tables) (m.funcs))
            else
             none
           )
          else
           none
         ) (
          meet (
           meet (
            if okM (Module.mk m.externs m.globals m.tables m.funcs) then
             if okM (Module.mk m.externs m.globals m.tables m.funcs) then
              J k6_l0 (s6_l0 m (0 : Int) ([Module.mk m.externs m.globals m.tables m.funcs]) (m.externs) (m.globals) (m.tables) (m.funcs) (m.externs) (m.globals) (m.tables) (m.funcs))
             else
              none
            else
             none
           ) (
            if okM (Module.mk m.externs m.globals m.tables m.funcs) then
             if okM (Module.mk m.externs m.globals m.tables m.funcs) then
              J k6_l0 (s6_l0 m (0 : Int) ([Module.mk m.externs m.globals m.tables m.funcs]) (m.externs) (m.globals) (m.tables) (m.funcs) (m.externs) (m.globals) (m.tables) (m.funcs))
             else
              none
            else
             none
           )
          ) (
           meet (
            if okM (Module.mk m.externs m.globals m.tables m.funcs) then
             if okM (Module.mk m.externs m.globals m.tables m.funcs) then
              J k6_l0 (s6_l0 m (0 : Int) ([Module.mk m.externs m.globals m.tables m.funcs]) (m.externs) (m.globals) (m.tables) (m.funcs) (m.externs) (m.globals) (m.tables) (m.funcs))
             else
              none
            else
             none
           ) (
            if okM (Module.mk m.externs m.globals m.tables m.funcs) then
             if okM (Module.mk m.externs m.globals m.tables m.funcs) then
              J k6_l0 (s6_l0 m (0 : Int) ([Module.mk m.externs m.globals m.tables m.funcs]) (m.externs) (m.globals) (m.tables) (m.funcs) (m.externs) (m.globals) (m.tables) (m.funcs))
             else
              none
            else
             none
           )
          )
         )
        else
         none
       ) (
        meet (
         meet (
          if okM (Module.mk m.externs m.globals m.tables m.funcs) then
           meet (
            if okM (Module.mk m.externs m.globals m.tables m.funcs) then
             if okM (Module.mk m.externs m.globals m.tables m.funcs) then
              J k6_l0 (s6_l0 m (0 : Int) ([Module.mk m.externs m.globals m.tables m.funcs]) (m.externs) (m.globals) (m.tables) (m.funcs) (m.externs) (m.globals) (m.tables) (m.funcs))
             else
              none
            else
             none
           ) (
            if okM (Module.mk m.externs m.globals m.tables m.funcs) then
             if okM (Module.mk m.externs m.globals m.tables m.funcs) then
              J k6_l0 (s6_l0 m (0 : Int) ([Module.mk m.externs m.globals m.tables m.funcs]) (m.externs) (m.globals) (m.tables) (m.funcs) (m.externs) (m.globals) (m.tables) (m.funcs))
             else
              none
            else
             none
           )
          else
           none
         ) (
          if okM (Module.mk m.externs m.globals m.tables m.funcs) then
           if okM (Module.mk m.externs m.globals m.tables m.funcs) then
            if okM (Module.mk m.externs m.globals m.tables m.funcs) then
             J k6_l0 (s6_l0 m (0 : Int) ([Module.mk m.externs m.globals m.tables m.funcs]) (m.externs) (m.globals) (m.tables) (m.funcs) (m.externs) (m.globals) (m.tables) (m.funcs))
            else
             none
           else
            none
          else
           none
         )
        ) (
         meet (
          if okM (Module.mk m.externs m.globals m.tables m.funcs) then
           meet (
            if okM (Module.mk m.externs m.globals m.tables m.funcs) then
             if okM (Module.mk m.externs m.globals m.tables m.funcs) then
              J k6_l0 (s6_l0 m (0 : Int) ([Module.mk m.externs m.globals m.tables m.funcs]) (m.externs) (m.globals) (m.tables) (m.funcs) (m.externs) (m.globals) (m.tables) (m.funcs))
             else
              none
            else
             none
           ) (
            if okM (Module.mk m.externs m.globals m.tables m.funcs) then
             if okM (Module.mk m.externs m.globals m.tables m.funcs) then
              J k6_l0 (s6_l0 m (0 : Int) ([Module.mk m.externs m.globals m.tables m.funcs]) (m.externs) (m.globals) (m.tables) (m.funcs) (m.externs) (m.globals) (m.tables) (m.funcs))
             else
              none
            else
             none
           )
          else
           none
         ) (
          if okM (Module.mk m.externs m.globals m.tables m.funcs) then
           if okM (Module.mk m.externs m.globals m.tables m.funcs) then
            if okM (Module.mk m.externs m.globals m.tables m.funcs) then
             J k6_l0 (s6_l0 m (0 : Int) ([Module.mk m.externs m.globals m.tables m.funcs]) (m.externs) (m.globals) (m.tables) (m.funcs) (m.externs) (m.globals) (m.tables) (m.funcs))
            else
             none
           else
            none
          else
           none
         )
        )
       )
      else
       none
    else
     none := by kernel_rfl
theorem e6_l0 (J : List Item → St Ty → EvR) (m : Module) (v6 : Int) (h0 : List Module) (h1 : List Extern) (h1_1 : List Global) (h1_2 : List Table) (h1_3 : List Func) (h2 : List Extern) (h2_1 : List Global) (h2_2 : List Table) (h2_3 : List Func) : run tb C6 U6 J (R6 m) 4096 k6_l0 (s6_l0 m v6 h0 h1 h1_1 h1_2 h1_3 h2 h2_1 h2_2 h2_3) =
    if decide (v6 < (↑(h0.getD (0) (Module.mk [] [] [] [])).funcs.length : Int)) = true then
     if (0 : Int) ≤ v6 then
      if v6 < (↑(h0.getD (0) (Module.mk [] [] [] [])).funcs.length : Int) then
       if okF (Func.mk ((h0.getD (0) (Module.mk [] [] [] [])).funcs.getD v6.toNat (Func.mk ByteArray.empty false [] (0 : Int) [])).name ((h0.getD (0) (Module.mk [] [] [] [])).funcs.getD v6.toNat (Func.mk ByteArray.empty false [] (0 : Int) [])).out ((h0.getD (0) (Module.mk [] [] [] [])).funcs.getD v6.toNat (Func.mk ByteArray.empty false [] (0 : Int) [])).params ((h0.getD (0) (Module.mk [] [] [] [])).funcs.getD v6.toNat (Func.mk ByteArray.empty false [] (0 : Int) [])).result ((h0.getD (0) (Module.mk [] [] [] [])).funcs.getD v6.toNat (Func.mk ByteArray.empty false [] (0 : Int) [])).blocks) then
        if okM (Module.mk [] [] [] [Func.mk ((h0.getD (0) (Module.mk [] [] [] [])).funcs.getD v6.toNat (Func.mk ByteArray.empty false [] (0 : Int) [])).name ((h0.getD (0) (Module.mk [] [] [] [])).funcs.getD v6.toNat (Func.mk ByteArray.empty false [] (0 : Int) [])).out ((h0.getD (0) (Module.mk [] [] [] [])).funcs.getD v6.toNat (Func.mk ByteArray.empty false [] (0 : Int) [])).params ((h0.getD (0) (Module.mk [] [] [] [])).funcs.getD v6.toNat (Func.mk ByteArray.empty false [] (0 : Int) [])).result (neatB ((h0.getD (0) (Module.mk [] [] [] [])).funcs.getD v6.toNat (Func.mk ByteArray.empty false [] (0 : Int) [])).params.length ((h0.getD (0) (Module.mk [] [] [] [])).funcs.getD v6.toNat (Func.mk ByteArray.empty false [] (0 : Int) [])).blocks)]) then
         J k6_l0 (s6_l0 m (IntKind.i64.wrap (v6 + (1 : Int))) (h0) (h1) (h1_1) (h1_2) (h1_3) (h2) (h2_1) (h2_2) (h2_3))
        else
         none
       else
        none
      else
       none
     else
      none
    else
     J k6_j0 (s6_j0 m (h0) (h1) (h1_1) (h1_2) (h1_3) (h2) (h2_1) (h2_2) (h2_3)) := by kernel_rfl
theorem e6_j0 (J : List Item → St Ty → EvR) (m : Module) (h0 : List Module) (h1 : List Extern) (h1_1 : List Global) (h1_2 : List Table) (h1_3 : List Func) (h2 : List Extern) (h2_1 : List Global) (h2_2 : List Table) (h2_3 : List Func) : run tb C6 U6 J (R6 m) 4096 k6_j0 (s6_j0 m h0 h1 h1_1 h1_2 h1_3 h2 h2_1 h2_2 h2_3) =
    if okM (Module.mk (h0.getD (0) (Module.mk [] [] [] [])).externs (h0.getD (0) (Module.mk [] [] [] [])).globals (h0.getD (0) (Module.mk [] [] [] [])).tables (h0.getD (0) (Module.mk [] [] [] [])).funcs) then
     if sameMo (Module.mk (h0.getD (0) (Module.mk [] [] [] [])).externs (h0.getD (0) (Module.mk [] [] [] [])).globals (h0.getD (0) (Module.mk [] [] [] [])).tables (h0.getD (0) (Module.mk [] [] [] [])).funcs) (Module.mk h1 h1_1 h1_2 h1_3) = true then
      if okM (Module.mk h2 h2_1 h2_2 h2_3) then
       some (.v (.bool (sameMo (Module.mk h2 h2_1 h2_2 h2_3) (Module.mk h1 h1_1 h1_2 h1_3))), [.dead])
      else
       none
     else
      some (.v (.bool false), [.dead])
    else
     none := by kernel_rfl

theorem in6 : Entered 6 := ⟨Try.f6, b6, by kernel_rfl, by kernel_rfl, by kernel_rfl⟩
theorem fn6 (m : Ev.Module) {res : AV Ty} {outs : List (AV Ty)} (h : Ends C6 U6 (R6 m) [.code b6] ⟨slotsA (a6 m) 0 0, heapA (a6 m)⟩ (some (res, outs))) : CallOk tb Try.prog 6 (a6 m) res outs := by
  obtain ⟨n0, hn⟩ := h
  exact fn_ok (C := C6) (U := U6) (n := 0 + n0) (q := .keep) tbOk good (fun f mu S h => by
    unfold C6 at h
    simp only at h
    split at h
    · cases h; exact ⟨in24, S24_ok⟩
    · cases h; exact ⟨in33, S33_ok⟩
    · cases h; exact ⟨in34, S34_ok⟩
    · cases h; exact ⟨in35, S35_ok⟩
    · cases h; exact ⟨in36, S36_ok⟩
    · cases h; exact ⟨in26, S26_ok⟩
    · cases h; exact ⟨in37, S37_ok⟩
    · cases h) mixed (fn := Try.f6) (body := b6) (by kernel_rfl) (by kernel_rfl) rfl rfl (by show 1 ≤ 45; omega) (hn 0)
abbrev laS (m : Ev.Module) (k : Nat) : St Ty := s6_l0 m k [m] m.externs m.globals m.tables m.funcs m.externs m.globals m.tables m.funcs
theorem Apart.in {m : Ev.Module} (h : okM m) (k : Nat) (hk : k < m.funcs.length) : Goes C6 U6 (R6 m) k6_l0 (laS m k) k6_l0 (laS m (k + 1)) := .step fun J => by
  have hf := h.2.2.2.2 _ (getD_mem (d := (Func.mk ByteArray.empty false [] 0 [])) hk)
  have hl := h.1.2.2.2
  have hg := neatF_ok hf
  have e : (Func.mk (m.funcs.getD k (Func.mk ByteArray.empty false [] 0 [])).name (m.funcs.getD k (Func.mk ByteArray.empty false [] 0 [])).out (m.funcs.getD k (Func.mk ByteArray.empty false [] 0 [])).params (m.funcs.getD k (Func.mk ByteArray.empty false [] 0 [])).result (m.funcs.getD k (Func.mk ByteArray.empty false [] 0 [])).blocks) = m.funcs.getD k (Func.mk ByteArray.empty false [] 0 []) := rfl
  have e' : (Func.mk (m.funcs.getD k (Func.mk ByteArray.empty false [] 0 [])).name (m.funcs.getD k (Func.mk ByteArray.empty false [] 0 [])).out (m.funcs.getD k (Func.mk ByteArray.empty false [] 0 [])).params (m.funcs.getD k (Func.mk ByteArray.empty false [] 0 [])).result (neatB (m.funcs.getD k (Func.mk ByteArray.empty false [] 0 [])).params.length (m.funcs.getD k (Func.mk ByteArray.empty false [] 0 [])).blocks)) = neatF (m.funcs.getD k (Func.mk ByteArray.empty false [] 0 [])) := rfl
  have ho : okM (Module.mk [] [] [] [neatF (m.funcs.getD k (Func.mk ByteArray.empty false [] 0 []))]) := by
    refine ⟨⟨by simp, by simp, by simp, by simp⟩, by simp, by simp, by simp, fun f hf => ?_⟩
    simp only [List.mem_singleton] at hf
    subst hf
    exact hg
  unfold laS
  rw [e6_l0]
  simp only [Int.toNat_natCast, List.getD_cons_zero]
  rw [e', e]
  simp (disch := first | omega | assumption | (rw [decide_eq_true_eq]; omega) | (rw [decide_eq_false_iff_not]; omega)) only [↓if_pos, ↓if_neg, if_true, if_false, wrap_up, Int.toNat_natCast, Nat.zero_add]
  rfl
theorem apart_ok (m : Ev.Module) (hw : wideM m) : CallOk tb Try.prog 6 (a6 m) (.v (.bool true)) [.dead] := by
  have e : (⟨m.externs, m.globals, m.tables, m.funcs⟩ : Ev.Module) = m := rfl
  by_cases hl : smallM m
  · have h := hl.ok
    have b1 : smallB m = true := decide_eq_true hl
    refine fn6 m (Goes.ends (k' := k6_l0) (s' := laS m 0) (.step fun J => ?_) (Goes.ends (Goes.upto (laS m) m.funcs.length (fun k hk => Apart.in h k hk) _ (Nat.le_refl _)) (Goes.ends (k' := k6_j0) (s' := s6_j0 m [m] m.externs m.globals m.tables m.funcs m.externs m.globals m.tables m.funcs) (.step fun J => ?_) (.step fun J => ?_))))
    · rw [e6]
      simp only [e, b1, meet_self, if_pos h, if_pos hw, Bool.not_true, Bool.false_eq_true, if_false]
      rfl
    · unfold laS
      rw [e6_l0]
      simp only [List.getD_cons_zero]
      simp (disch := first | omega | assumption | (rw [decide_eq_true_eq]; omega) | (rw [decide_eq_false_iff_not]; omega)) only [↓if_pos, ↓if_neg, if_true, if_false, wrap_up, Int.toNat_natCast, Nat.zero_add]
    · rw [e6_j0]
      simp only [List.getD_cons_zero, e]
      rw [if_pos h, sameMo_self, if_pos rfl, if_pos h]
  · have b1 : smallB m = false := decide_eq_false hl
    refine fn6 m (.step fun J => ?_)
    rw [e6]
    simp only [e]
    rw [if_pos hw, b1]
    rfl
end Go.Proofs.Ytggibjbcbicpjaa.Ev
