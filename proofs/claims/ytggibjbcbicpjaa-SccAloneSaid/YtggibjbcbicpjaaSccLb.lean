/- plnlaw14.SccAlone and SccRings: they answer true. -/
import Derived.Test.YtggibjbcbicpjaaSccLa
namespace Go.Proofs.Ytggibjbcbicpjaa.Ev
open Go
set_option linter.unusedVariables false
set_option linter.unusedSimpArgs false
theorem bits16 (a : Int) : 0 ≤ bitsI BinOp.and IntKind.i64 a 65535 ∧ bitsI BinOp.and IntKind.i64 a 65535 ≤ 65535 := by
  have e : bitsI BinOp.and IntKind.i64 a 65535 = IntKind.i64.wrap (((BitVec.ofInt 64 a &&& BitVec.ofInt 64 65535).toNat : Nat) : Int) := rfl
  have h : (BitVec.ofInt 64 a &&& BitVec.ofInt 64 65535).toNat ≤ 65535 := by
    rw [BitVec.toNat_and]
    have : (BitVec.ofInt 64 65535).toNat = 65535 := by decide
    rw [this]
    exact Nat.and_le_right
  rw [e, wrap_up (by omega)]
  omega
def nodeOf (g : List (List Int)) (a : Int) : Nat := ((bitsI BinOp.and IntKind.i64 a 65535).tmod (g.length : Int)).toNat
theorem node_eq {g : List (List Int)} (h : 0 < g.length) (a : Int) : (bitsI BinOp.and IntKind.i64 a 65535).tmod (g.length : Int) = (nodeOf g a : Nat) ∧ nodeOf g a < g.length := by
  have h1 := (bits16 a).1
  have h2 : 0 ≤ (bitsI BinOp.and IntKind.i64 a 65535).tmod (g.length : Int) := Int.tmod_nonneg _ h1
  have h3 : (bitsI BinOp.and IntKind.i64 a 65535).tmod (g.length : Int) < (g.length : Int) := Int.tmod_lt_of_pos _ (by omega)
  unfold nodeOf
  omega
noncomputable def b10 : Code := bodyOf Try.f10
noncomputable def C10 : Cfg Ty := ⟨fun
  | 38 => some ([], S38)
  | 39 => some ([], S39)
  | 44 => some ([], S44)
  | 43 => some ([], S43)
  | 47 => some ([], S47)
  | 40 => some ([], S40)
  | _ => none, fun
  | 5 => true
  | 37 => true
  | 42 => true
  | 49 => true
  | 50 => true
  | 51 => true
  | _ => false, 121, 0⟩
def U10 : Cuts := ⟨fun
  | 0 => some [(0, none), (1, none), (5, some 1030)]
  | 2 => some [(0, none), (1, none), (5, some 30), (8, none)]
  | 4 => some [(0, none), (1, none), (5, some 30), (8, none), (10, none), (11, none)]
  | _ => none, fun
  | 0 => some [(0, none), (1, none), (5, some 30), (6, none)]
  | 2 => some [(0, none), (1, none), (5, some 30), (8, none), (9, none)]
  | 4 => some [(0, none), (1, none), (5, some 30), (8, none), (10, none), (11, none), (12, none)]
  | _ => none, fun _ => none⟩
/-- join 0: live: 0, 1, 5 -/
noncomputable def k10_j0 : List Item := [.code (sndC (sndC (sndC (sndC (sndC (sndC b10))))))]
/-- loop 0: live: 0, 1, 5, 6 -/
noncomputable def k10_l0 : List Item := [.code (inC (inC (sndC (fstC (sndC (sndC (sndC (sndC (sndC b10))))))))), .inLoop (inC (inC (sndC (fstC (sndC (sndC (sndC (sndC (sndC b10))))))))), .inBlock 0, .code (sndC (sndC (sndC (sndC (sndC (sndC b10))))))]
/-- join 2: live: 0, 1, 5, 8 -/
noncomputable def k10_j2 : List Item := [.code (sndC (sndC (sndC (sndC (sndC (sndC (sndC (sndC b10))))))))]
/-- loop 2: live: 0, 1, 5, 8, 9 -/
noncomputable def k10_l2 : List Item := [.code (inC (inC (sndC (fstC (sndC (sndC (sndC (sndC (sndC (sndC (sndC b10))))))))))), .inLoop (inC (inC (sndC (fstC (sndC (sndC (sndC (sndC (sndC (sndC (sndC b10))))))))))), .inBlock 2, .code (sndC (sndC (sndC (sndC (sndC (sndC (sndC (sndC b10))))))))]
/-- join 4: live: 0, 1, 5, 8, 10, 11 -/
noncomputable def k10_j4 : List Item := [.code (sndC (sndC (sndC (sndC (sndC (sndC (sndC (sndC (sndC (sndC (sndC b10)))))))))))]
/-- loop 4: live: 0, 1, 5, 8, 10, 11, 12 -/
noncomputable def k10_l4 : List Item := [.code (inC (inC (sndC (fstC (sndC (sndC (sndC (sndC (sndC (sndC (sndC (sndC (sndC (sndC b10)))))))))))))), .inLoop (inC (inC (sndC (fstC (sndC (sndC (sndC (sndC (sndC (sndC (sndC (sndC (sndC (sndC b10)))))))))))))), .inBlock 4, .code (sndC (sndC (sndC (sndC (sndC (sndC (sndC (sndC (sndC (sndC (sndC b10)))))))))))]
def a10 (g : List (List Int)) (v : Int) : List (AV Ty) := [.sl false (30 : Nat) g, .v (.int .i64 v)]
noncomputable def R10 (g : List (List Int)) (v : Int) : St Ty → EvR := resT tb C10 Try.f10.results.toList .keep (a10 g v)
def s10_l0 (g : List (List Int)) (v : Int) (v1 : Int) (v6 : Int) (h0 : List (List Int)) : St Ty := St.mk [(0, .sl false (30) g), (1, .v (.int .i64 v1)), (5, .ref (0) [] none false), (6, .v (.int .i64 v6))] [some (Root.mk (30) true h0)]
def s10_j0 (g : List (List Int)) (v : Int) (v1 : Int) (v5 : List (List Int)) : St Ty := St.mk [(0, .sl false (30) g), (1, .v (.int .i64 v1)), (5, .sl false (30) v5)] []
def s10_l2 (g : List (List Int)) (v : Int) (v1 : Int) (v5 : List (List Int)) (v8 : Bool) (v9 : Int) : St Ty := St.mk [(0, .sl false (30) g), (1, .v (.int .i64 v1)), (5, .sl false (30) v5), (8, .v (.bool v8)), (9, .v (.int .i64 v9))] []
def s10_j2 (g : List (List Int)) (v : Int) (v1 : Int) (v5 : List (List Int)) (v8 : Bool) : St Ty := St.mk [(0, .sl false (30) g), (1, .v (.int .i64 v1)), (5, .sl false (30) v5), (8, .v (.bool v8))] []
def s10_l4 (g : List (List Int)) (v : Int) (v1 : Int) (v5 : List (List Int)) (v8 : Bool) (v10 : List (List Int)) (v11 : Bool) (v12 : Int) : St Ty := St.mk [(0, .sl false (30) g), (1, .v (.int .i64 v1)), (5, .sl false (30) v5), (8, .v (.bool v8)), (10, .sl false (30) v10), (11, .v (.bool v11)), (12, .v (.int .i64 v12))] []
def s10_j4 (g : List (List Int)) (v : Int) (v1 : Int) (v5 : List (List Int)) (v8 : Bool) (v10 : List (List Int)) (v11 : Bool) : St Ty := St.mk [(0, .sl false (30) g), (1, .v (.int .i64 v1)), (5, .sl false (30) v5), (8, .v (.bool v8)), (10, .sl false (30) v10), (11, .v (.bool v11))] []
theorem e10 (J : List Item → St Ty → EvR) (g : List (List Int)) (v : Int) : run tb C10 U10 J (R10 g v) 4096 [.code b10] ⟨slotsA (a10 g v) 0 0, heapA (a10 g v)⟩ =
    if (!lightB g) = false then
     if ((↑g.length : Int) == (0 : Int)) = true then
      some (.v (.bool true), [.dead, .dead])
     else
      if (↑g.length : Int) = (0 : Int) then
       none
      else
       J k10_l0 (s10_l0 g v ((bitsI BinOp.and IntKind.i64 v (65535 : Int)).tmod (↑g.length : Int)) (0 : Int) ([]))
    else
     some (.v (.bool true), [.dead, .dead]) := by kernel_rfl
theorem e10_l0 (J : List Item → St Ty → EvR) (g : List (List Int)) (v : Int) (v1 : Int) (v6 : Int) (h0 : List (List Int)) : run tb C10 U10 J (R10 g v) 4096 k10_l0 (s10_l0 g v v1 v6 h0) =
    if decide (v6 < (↑g.length : Int)) = true then
     if (0 : Int) ≤ v6 then
      if v6 < (↑g.length : Int) then
       if [(-1 : Int), (↑g.length : Int), (1099511627776 : Int)].length + List.length (g.getD v6.toNat []) + (1 : Nat) ≤ (549755813888 : Nat) ∧ ([(-1 : Int), (↑g.length : Int), (1099511627776 : Int)].length + List.length (g.getD v6.toNat []) + (1 : Nat)) * (8 : Nat) ≤ (549755813888 : Nat) then
        if (0 : Int) ≤ v6 then
         if v6 < (↑g.length : Int) then
          if ([(-1 : Int), (↑g.length : Int), (1099511627776 : Int)] ++ g.getD v6.toNat []).length + List.length (g.getD v6.toNat []) + (1 : Nat) ≤ (549755813888 : Nat) ∧ (([(-1 : Int), (↑g.length : Int), (1099511627776 : Int)] ++ g.getD v6.toNat []).length + List.length (g.getD v6.toNat []) + (1 : Nat)) * (8 : Nat) ≤ (549755813888 : Nat) then
           if h0.length + [[(-1 : Int), (↑g.length : Int), (1099511627776 : Int)] ++ g.getD v6.toNat [] ++ g.getD v6.toNat []].length + (1 : Nat) ≤ (549755813888 : Nat) ∧ (h0.length + [[(-1 : Int), (↑g.length : Int), (1099511627776 : Int)] ++ g.getD v6.toNat [] ++ g.getD v6.toNat []].length + (1 : Nat)) * (24 : Nat) ≤ (549755813888 : Nat) then
            J k10_l0 (s10_l0 g v (v1) (IntKind.i64.wrap (v6 + (1 : Int))) (h0 ++ [[(-1 : Int), (↑g.length : Int), (1099511627776 : Int)] ++ g.getD v6.toNat [] ++ g.getD v6.toNat []]))
           else
            none
          else
           none
         else
          none
        else
         none
       else
        none
      else
       none
     else
      none
    else
     J k10_j0 (s10_j0 g v (v1) (h0)) := by kernel_rfl
theorem e10_j0 (J : List Item → St Ty → EvR) (g : List (List Int)) (v : Int) (v1 : Int) (v5 : List (List Int)) : run tb C10 U10 J (R10 g v) 4096 k10_j0 (s10_j0 g v v1 v5) =
    J k10_l2 (s10_l2 g v (v1) (v5) (false) (0 : Int)) := by kernel_rfl
theorem e10_l2 (J : List Item → St Ty → EvR) (g : List (List Int)) (v : Int) (v1 : Int) (v5 : List (List Int)) (v8 : Bool) (v9 : Int) : run tb C10 U10 J (R10 g v) 4096 k10_l2 (s10_l2 g v v1 v5 v8 v9) =
    if (0 : Int) ≤ v1 then
     if v1 < (↑g.length : Int) then
      if decide (v9 < (↑(List.length (g.getD v1.toNat [])) : Int)) = true then
       if v8 = false then
        if (0 : Int) ≤ v1 then
         if v1 < (↑g.length : Int) then
          if (0 : Int) ≤ v9 then
           if v9 < (↑(List.length (g.getD v1.toNat [])) : Int) then
            J k10_l2 (s10_l2 g v (v1) (v5) (List.getD (g.getD v1.toNat []) v9.toNat (0 : Int) == v1) (IntKind.i64.wrap (v9 + (1 : Int))))
           else
            none
          else
           none
         else
          none
        else
         none
       else
        J k10_l2 (s10_l2 g v (v1) (v5) (true) (IntKind.i64.wrap (v9 + (1 : Int))))
      else
       J k10_j2 (s10_j2 g v (v1) (v5) (v8))
     else
      none
    else
     none := by kernel_rfl
theorem e10_j2 (J : List Item → St Ty → EvR) (g : List (List Int)) (v : Int) (v1 : Int) (v5 : List (List Int)) (v8 : Bool) : run tb C10 U10 J (R10 g v) 4096 k10_j2 (s10_j2 g v v1 v5 v8) =
    if smallRows g then
     J k10_l4 (s10_l4 g v (v1) (v5) (v8) (setsI g) (false) (0 : Int))
    else
     none := by kernel_rfl
theorem e10_l4 (J : List Item → St Ty → EvR) (g : List (List Int)) (v : Int) (v1 : Int) (v5 : List (List Int)) (v8 : Bool) (v10 : List (List Int)) (v11 : Bool) (v12 : Int) : run tb C10 U10 J (R10 g v) 4096 k10_l4 (s10_l4 g v v1 v5 v8 v10 v11 v12) =
    if decide (v12 < (↑v10.length : Int)) = true then
     if v11 = false then
      if (0 : Int) ≤ v12 then
       if v12 < (↑v10.length : Int) then
        if decide ((↑(List.length (v10.getD v12.toNat [])) : Int) > (1 : Int)) = true then
         if (0 : Int) ≤ v12 then
          if v12 < (↑v10.length : Int) then
           if List.length (v10.getD v12.toNat []) ≤ (4611686018427387904 : Nat) then
            J k10_l4 (s10_l4 g v (v1) (v5) (v8) (v10) (inB (v10.getD v12.toNat []) v1) (IntKind.i64.wrap (v12 + (1 : Int))))
           else
            none
          else
           none
         else
          none
        else
         J k10_l4 (s10_l4 g v (v1) (v5) (v8) (v10) (false) (IntKind.i64.wrap (v12 + (1 : Int))))
       else
        none
      else
       none
     else
      J k10_l4 (s10_l4 g v (v1) (v5) (v8) (v10) (true) (IntKind.i64.wrap (v12 + (1 : Int))))
    else
     J k10_j4 (s10_j4 g v (v1) (v5) (v8) (v10) (v11)) := by kernel_rfl
theorem e10_j4 (J : List Item → St Ty → EvR) (g : List (List Int)) (v : Int) (v1 : Int) (v5 : List (List Int)) (v8 : Bool) (v10 : List (List Int)) (v11 : Bool) : run tb C10 U10 J (R10 g v) 4096 k10_j4 (s10_j4 g v v1 v5 v8 v10 v11) =
    if smallRows v5 then
     if rowsIn (setsI v5) then
      if sameRows (setsI v5) v10 = true then
       if smallRows g then
        if v8 = false then
         if (recB g v1 == v11) = true then
          if smallRows v5 then
           if smallRows g then
            some (.v (.bool (recB v5 v1 == recB g v1)), [.dead, .dead])
           else
            none
          else
           none
         else
          some (.v (.bool false), [.dead, .dead])
        else
         if (recB g v1 == true) = true then
          if smallRows v5 then
           if smallRows g then
            some (.v (.bool (recB v5 v1 == recB g v1)), [.dead, .dead])
           else
            none
          else
           none
         else
          some (.v (.bool false), [.dead, .dead])
       else
        none
      else
       some (.v (.bool false), [.dead, .dead])
     else
      none
    else
     none := by kernel_rfl

theorem in10 : Entered 10 := ⟨Try.f10, b10, by kernel_rfl, by kernel_rfl, by kernel_rfl⟩
theorem fn10 (g : List (List Int)) (v : Int) {res : AV Ty} {outs : List (AV Ty)} (h : Ends C10 U10 (R10 g v) [.code b10] ⟨slotsA (a10 g v) 0 0, heapA (a10 g v)⟩ (some (res, outs))) : CallOk tb Try.prog 10 (a10 g v) res outs := by
  obtain ⟨n0, hn⟩ := h
  exact fn_ok (C := C10) (U := U10) (n := 0 + n0) (q := .keep) tbOk good (fun f mu S h => by
    unfold C10 at h
    simp only at h
    split at h
    · cases h; exact ⟨in38, S38_ok⟩
    · cases h; exact ⟨in39, S39_ok⟩
    · cases h; exact ⟨in44, S44_ok⟩
    · cases h; exact ⟨in43, S43_ok⟩
    · cases h; exact ⟨in47, S47_ok⟩
    · cases h; exact ⟨in40, S40_ok⟩
    · cases h) mixed (fn := Try.f10) (body := b10) (by kernel_rfl) (by kernel_rfl) rfl rfl (by show 2 ≤ 121; omega) (hn 0)
def wide (g : List (List Int)) (r : List Int) : List Int := [(-1 : Int), (g.length : Int), (1099511627776 : Int)] ++ r ++ r
def wideG (g : List (List Int)) : List (List Int) := g.map (wide g)
theorem wide_get {g : List (List Int)} {i : Nat} (hi : i < g.length) : (wideG g).getD i [] = wide g (g.getD i []) := by
  simp [wideG, List.getD_eq_getElem?_getD, hi]
theorem wide_len (g : List (List Int)) : (wideG g).length = g.length := by simp [wideG]
theorem wide_ed {g : List (List Int)} (hg : smallRows g) (a b : Nat) : ed (wideG g) a b ↔ ed g a b := by
  unfold ed
  rw [wide_len]
  have g1 := hg.1
  constructor
  · rintro ⟨h1, h2, h3⟩
    refine ⟨h1, h2, ?_⟩
    rw [wide_get h1] at h3
    unfold wide at h3
    simp only [List.mem_append, List.mem_cons, List.not_mem_nil, or_false] at h3
    rcases h3 with (⟨h3 | h3 | h3⟩ | h3) | h3 <;> first | omega | exact h3
  · rintro ⟨h1, h2, h3⟩
    refine ⟨h1, h2, ?_⟩
    rw [wide_get h1]
    exact List.mem_append_right _ h3
theorem wide_small {g : List (List Int)} (h : light g) : smallRows (wideG g) := by
  refine ⟨by rw [wide_len]; have := h.1; omega, fun r hr => ?_⟩
  unfold wideG at hr
  obtain ⟨x, hx, rfl⟩ := List.mem_map.1 hr
  have := h.2 x hx
  simp only [wide, List.length_append, List.length_cons, List.length_nil]
  omega
theorem setsI_wide {g : List (List Int)} (hg : smallRows g) : setsI (wideG g) = setsI g := by
  unfold setsI
  rw [setsN_ed (wide_len g) fun a b => wide_ed hg a b]
theorem recB_wide {g : List (List Int)} (hg : smallRows g) (v : Int) : recB (wideG g) v = recB g v := by
  have e : ed (wideG g) = ed g := by funext a b; exact propext (wide_ed hg a b)
  unfold recB ledB
  rw [wide_len, e]
section
variable {g : List (List Int)} {v : Nat}
open Classical in
noncomputable def ownB (g : List (List Int)) (v k : Nat) : Bool := decide ((v : Int) ∈ (g.getD v []).take k)
open Classical in
noncomputable def bigB (g : List (List Int)) (v i : Nat) : Bool := decide (∃ j, j < i ∧ j < (setsN g).length ∧ 1 < ((setsN g).getD j []).length ∧ v ∈ (setsN g).getD j [])
theorem ownB_step {k : Nat} (hk : k < (g.getD v []).length) : ownB g v (k + 1) = if ownB g v k = false then ((g.getD v []).getD k 0 == (v : Int)) else true := by
  classical
  have e : (g.getD v []).take (k + 1) = (g.getD v []).take k ++ [(g.getD v []).getD k 0] := by
    generalize g.getD v [] = l at hk
    rw [List.take_add_one, List.getD_eq_getElem?_getD, List.getElem?_eq_getElem hk]
    rfl
  unfold ownB
  rw [e]
  by_cases c : (v : Int) ∈ (g.getD v []).take k
  · rw [decide_eq_true c, if_neg (by simp), decide_eq_true (List.mem_append_left _ c)]
  · rw [decide_eq_false c, if_pos rfl, Bool.eq_iff_iff, decide_eq_true_eq, beq_iff_eq, List.mem_append, List.mem_singleton]
    exact ⟨fun h => (h.resolve_left c).symm, fun h => .inr h.symm⟩
theorem bigB_step {i : Nat} (hi : i < (setsN g).length) : bigB g v (i + 1) = if bigB g v i = false then (if 1 < ((setsN g).getD i []).length then decide (v ∈ (setsN g).getD i []) else false) else true := by
  classical
  unfold bigB
  by_cases c : ∃ j, j < i ∧ j < (setsN g).length ∧ 1 < ((setsN g).getD j []).length ∧ v ∈ (setsN g).getD j []
  · rw [decide_eq_true c, if_neg (by simp)]
    obtain ⟨j, h1, h2⟩ := c
    exact decide_eq_true ⟨j, by omega, h2⟩
  · rw [decide_eq_false c, if_pos rfl, Bool.eq_iff_iff, decide_eq_true_eq]
    constructor
    · rintro ⟨j, h1, h2, h3, h4⟩
      rcases Nat.lt_or_ge j i with e | e
      · exact absurd ⟨j, e, h2, h3, h4⟩ c
      · have : j = i := by omega
        subst this
        rw [if_pos h3]
        exact decide_eq_true h4
    · intro h
      by_cases c2 : 1 < ((setsN g).getD i []).length
      · rw [if_pos c2] at h
        exact ⟨i, by omega, hi, c2, of_decide_eq_true h⟩
      · rw [if_neg c2] at h; cases h
theorem alone_rec (hv : v < g.length) : recB g (v : Int) = if ownB g v (g.getD v []).length = false then bigB g v (setsN g).length else true := by
  classical
  have hr : recB g (v : Int) = true ↔ Led (ed g) v v := by
    unfold recB
    rw [if_pos (by omega), Int.toNat_natCast, ledB_iff]
  have ho : ownB g v (g.getD v []).length = true ↔ (v : Int) ∈ g.getD v [] := by unfold ownB; rw [List.take_length, decide_eq_true_eq]
  have hb : bigB g v (setsN g).length = true ↔ 1 < (cls g v).length := by
    unfold bigB
    rw [decide_eq_true_eq]
    constructor
    · rintro ⟨j, _, h2, h3, h4⟩
      rw [(setsN_way g).row_cls h2 h4] at h3
      exact h3
    · intro h
      obtain ⟨j, h1, h2⟩ := mem_flat.1 (setsN_full g v hv)
      exact ⟨j, h1, h1, by rw [(setsN_way g).row_cls h1 h2]; exact h, h2⟩
  have := rec_iff hv
  rw [Bool.eq_iff_iff, hr, this, ← ho, ← hb]
  cases ownB g v (g.getD v []).length <;> simp
theorem alone_walk (hl : light g) (a : Int) (hn : 0 < g.length) (hv : v = nodeOf g a) : Ends C10 U10 (R10 g a) k10_l0 (s10_l0 g a v (0 : Nat) []) (some (yes true, [.dead, .dead])) := by
  have hg := small_of hl
  have g1 := hl.1
  have hvl : v < g.length := by rw [hv]; exact (node_eq hn a).2
  have gv := hl.2 _ (getD_in (d := []) hvl)
  have l1 : (setsI g).length = (setsN g).length := intR_len _
  have l2 : (setsN g).length ≤ g.length := Nat.le_trans (setsN_way g).count (setsN_way g).len
  refine Goes.ends (Goes.upto (fun i => s10_l0 g a v i ((wideG g).take i)) g.length (fun i hi => .step fun J => ?_) _ (Nat.le_refl _)) (Goes.ends (.step (k' := k10_j0) (s' := s10_j0 g a v (wideG g)) fun J => ?_) (Goes.ends (.step (k' := k10_l2) (s' := s10_l2 g a v (wideG g) (ownB g v 0) (0 : Nat)) fun J => ?_) (Goes.ends (Goes.upto (fun k => s10_l2 g a v (wideG g) (ownB g v k) k) (g.getD v []).length (fun k hk => .step fun J => ?_) _ (Nat.le_refl _)) (Goes.ends (.step (k' := k10_j2) (s' := s10_j2 g a v (wideG g) (ownB g v (g.getD v []).length)) fun J => ?_) (Goes.ends (.step (k' := k10_l4) (s' := s10_l4 g a v (wideG g) (ownB g v (g.getD v []).length) (setsI g) (bigB g v 0) (0 : Nat)) fun J => ?_)
    (Goes.ends (Goes.upto (fun i => s10_l4 g a v (wideG g) (ownB g v (g.getD v []).length) (setsI g) (bigB g v i) i) (setsN g).length (fun i hi => .step fun J => ?_) _ (Nat.le_refl _)) (Goes.ends (.step (k' := k10_j4) (s' := s10_j4 g a v (wideG g) (ownB g v (g.getD v []).length) (setsI g) (bigB g v (setsN g).length)) fun J => ?_) (.step fun J => ?_))))))))
  · have e : (wideG g).take (i + 1) = (wideG g).take i ++ [wide g (g.getD i [])] := by
      rw [← wide_get hi, List.take_add_one, List.getD_eq_getElem?_getD, List.getElem?_eq_getElem (by rw [wide_len]; exact hi)]
      rfl
    have gi := hl.2 _ (getD_in (d := []) hi)
    have lt : ((wideG g).take i).length ≤ 24 := by rw [List.length_take, wide_len]; omega
    have w1 : IntKind.i64.wrap ((i : Int) + 1) = ((i + 1 : Nat) : Int) := by rw [wrap_up (by omega)]; rfl
    rw [e10_l0, Int.toNat_natCast, w1, e]
    simp (disch := first | omega | assumption | (rw [decide_eq_true_eq]; omega) | (rw [decide_eq_false_iff_not]; omega)) only [↓if_pos, ↓if_neg, if_true, if_false, wrap_up, Int.toNat_natCast, Nat.zero_add, List.length_append, List.length_cons, List.length_nil]
    rfl
  · rw [e10_l0, ← wide_len g, List.take_length]
    simp (disch := first | omega | assumption | (rw [decide_eq_true_eq]; omega) | (rw [decide_eq_false_iff_not]; omega)) only [↓if_pos, ↓if_neg, if_true, if_false, wrap_up, Int.toNat_natCast, Nat.zero_add]
  · rw [e10_j0]
    have : ownB g v 0 = false := by unfold ownB; simp
    rw [this]
    rfl
  · have w1 : IntKind.i64.wrap ((k : Int) + 1) = ((k + 1 : Nat) : Int) := by rw [wrap_up (by omega)]; rfl
    rw [e10_l2]
    simp only [decide_eq_true_eq, decide_eq_false_iff_not]
    simp only [Int.toNat_natCast]
    rw [w1, ownB_step hk]
    by_cases c : ownB g v k = false
    · rw [c]
      simp (disch := first | omega | assumption | (rw [decide_eq_true_eq]; omega) | (rw [decide_eq_false_iff_not]; omega)) only [↓if_pos, ↓if_neg, if_true, if_false, wrap_up, Int.toNat_natCast, Nat.zero_add]
    · have c' : ownB g v k = true := by simpa using c
      rw [c']
      simp (disch := first | omega | assumption | (rw [decide_eq_true_eq]; omega) | (rw [decide_eq_false_iff_not]; omega)) only [↓if_pos, ↓if_neg, if_true, if_false, wrap_up, Int.toNat_natCast, Nat.zero_add, Bool.true_eq_false]
  · rw [e10_l2]
    simp only [decide_eq_true_eq, decide_eq_false_iff_not]
    simp only [Int.toNat_natCast]
    simp (disch := first | omega | assumption | (rw [decide_eq_true_eq]; omega) | (rw [decide_eq_false_iff_not]; omega)) only [↓if_pos, ↓if_neg, if_true, if_false, wrap_up, Int.toNat_natCast, Nat.zero_add]
  · have : bigB g v 0 = false := by
      classical
      unfold bigB
      exact decide_eq_false fun ⟨j, h, _⟩ => by omega
    rw [e10_j2, this]
    simp (disch := first | omega | assumption | (rw [decide_eq_true_eq]; omega) | (rw [decide_eq_false_iff_not]; omega)) only [↓if_pos, ↓if_neg, if_true, if_false, wrap_up, Int.toNat_natCast, Nat.zero_add]
    rfl
  · have w1 : IntKind.i64.wrap ((i : Int) + 1) = ((i + 1 : Nat) : Int) := by rw [wrap_up (by omega)]; rfl
    have row : (setsI g).getD i [] = intL ((setsN g).getD i []) := intR_get _ i
    have li := intL_len ((setsN g).getD i [])
    have lr := (setsN_way g).row _ (getD_in (d := []) hi)
    have hin : inB (intL ((setsN g).getD i [])) (v : Int) = decide (v ∈ (setsN g).getD i []) := by
      unfold inB
      rw [Bool.eq_iff_iff, decide_eq_true_eq, decide_eq_true_eq]
      exact mem_intL
    rw [e10_l4]
    simp only [decide_eq_true_eq, decide_eq_false_iff_not]
    simp only [Int.toNat_natCast]
    rw [w1, bigB_step hi, row, hin]
    by_cases c : bigB g v i = false
    · rw [c]
      by_cases c2 : 1 < ((setsN g).getD i []).length
      · simp (disch := first | omega | assumption | (rw [decide_eq_true_eq]; omega) | (rw [decide_eq_false_iff_not]; omega)) only [↓if_pos, ↓if_neg, if_true, if_false, wrap_up, Int.toNat_natCast, Nat.zero_add]
      · simp (disch := first | omega | assumption | (rw [decide_eq_true_eq]; omega) | (rw [decide_eq_false_iff_not]; omega)) only [↓if_pos, ↓if_neg, if_true, if_false, wrap_up, Int.toNat_natCast, Nat.zero_add]
    · have c' : bigB g v i = true := by simpa using c
      rw [c']
      simp (disch := first | omega | assumption | (rw [decide_eq_true_eq]; omega) | (rw [decide_eq_false_iff_not]; omega)) only [↓if_pos, ↓if_neg, if_true, if_false, wrap_up, Int.toNat_natCast, Nat.zero_add, Bool.true_eq_false]
  · rw [e10_l4]
    simp only [decide_eq_true_eq]
    simp (disch := first | omega | assumption | (rw [decide_eq_true_eq]; omega) | (rw [decide_eq_false_iff_not]; omega)) only [↓if_pos, ↓if_neg, if_true, if_false, wrap_up, Int.toNat_natCast, Nat.zero_add]
  · have hs := wide_small hl
    have hr := rowsIn_of (setsI_small hg)
    have ar := alone_rec hvl
    rw [e10_j4, setsI_wide hg, sameRows_self, recB_wide hg]
    by_cases c : ownB g v (g.getD v []).length = false
    · rw [if_pos c] at ar
      have c1 : (recB g (v : Int) == bigB g v (setsN g).length) = true := by rw [ar]; simp
      have c2 : (recB g (v : Int) == recB g (v : Int)) = true := by simp
      rw [c1, c2]
      simp (disch := first | omega | assumption | (rw [decide_eq_true_eq]; omega) | (rw [decide_eq_false_iff_not]; omega)) only [↓if_pos, ↓if_neg, if_true, if_false, wrap_up, Int.toNat_natCast, Nat.zero_add]
      rfl
    · rw [if_neg c] at ar
      have c1 : (recB g (v : Int) == true) = true := by rw [ar]; rfl
      have c2 : (recB g (v : Int) == recB g (v : Int)) = true := by simp
      rw [c1, c2]
      simp (disch := first | omega | assumption | (rw [decide_eq_true_eq]; omega) | (rw [decide_eq_false_iff_not]; omega)) only [↓if_pos, ↓if_neg, if_true, if_false, wrap_up, Int.toNat_natCast, Nat.zero_add]
      rfl
end
theorem alone_ok (g : List (List Int)) (a : Int) : CallOk tb Try.prog 10 (a10 g a) (yes true) [.dead, .dead] := by
  refine fn10 g a ?_
  by_cases hl : light g
  · have hb : lightB g = true := lightB_iff.2 hl
    by_cases hn : 0 < g.length
    · obtain ⟨n1, n2⟩ := node_eq hn a
      refine Goes.ends (.step (k' := k10_l0) (s' := s10_l0 g a (nodeOf g a) (0 : Nat) []) fun J => ?_) (alone_walk hl a hn rfl)
      have c : ¬ ((g.length : Int) == 0) = true := by rw [beq_iff_eq]; omega
      rw [e10, hb, n1, if_pos (show (!true) = false from rfl), if_neg c, if_neg (by omega)]
      rfl
    · refine .step fun J => ?_
      have c : ((g.length : Int) == 0) = true := by rw [beq_iff_eq]; omega
      rw [e10, hb, if_pos (show (!true) = false from rfl), if_pos c]
      rfl
  · have hb : lightB g = false := by rw [← Bool.not_eq_true, lightB_iff]; exact hl
    refine .step fun J => ?_
    rw [e10, hb]
    rfl
end Go.Proofs.Ytggibjbcbicpjaa.Ev
