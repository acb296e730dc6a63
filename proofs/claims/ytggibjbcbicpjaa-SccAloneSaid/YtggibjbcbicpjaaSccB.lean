/- plnref12.leads, plnref12.Rec, scc.Rec: who is led to. -/
import Derived.Test.YtggibjbcbicpjaaSccA
namespace Go.Proofs.Ytggibjbcbicpjaa.Ev
open Go
set_option linter.unusedVariables false
set_option linter.unusedSimpArgs false
def intL (T : List Nat) : List Int := T.map fun x : Nat => (x : Int)
theorem intL_len (T : List Nat) : (intL T).length = T.length := by simp [intL]
theorem intL_app (T : List Nat) (x : Nat) : intL T ++ [(x : Int)] = intL (T ++ [x]) := by simp [intL]
theorem intL_take (T : List Nat) (n : Nat) : (intL T).take n = intL (T.take n) := by simp [intL]
theorem intL_get {T : List Nat} {n : Nat} (h : n < T.length) : (intL T).getD n 0 = ((T.getD n 0 : Nat) : Int) := by
  simp [intL, List.getD_eq_getElem?_getD, h]
theorem split_last {T : List Nat} (h : 0 < T.length) : ∃ R x, T = R ++ [x] := by
  refine ⟨T.dropLast, T.getLast (by intro e; rw [e] at h; simp at h), ?_⟩
  rw [List.dropLast_concat_getLast]
theorem last_get (R : List Nat) (x : Nat) : (intL (R ++ [x])).getD R.length 0 = (x : Int) := by
  rw [intL_get (by simp)]
  simp [List.getD_eq_getElem?_getD]
theorem last_take (R : List Nat) (x : Nat) : (intL (R ++ [x])).take R.length = intL R := by
  rw [intL_take]
  simp
/-- Some are seen, some are still to be gone through; x is under way, its first i ways are done. -/
structure Sk (g : List (List Int)) (v : Nat) (seen : List Bool) (T : List Nat) (cr : Option (Nat × Nat)) : Prop where
  len : seen.length = g.length
  led : ∀ w, seen.getD w false = true → Led (ed g) v w
  todo : ∀ x, x ∈ T → x < g.length ∧ (x = v ∨ seen.getD x false = true)
  cur : ∀ x i, cr = some (x, i) → x < g.length ∧ (x = v ∨ seen.getD x false = true)
  shut : ∀ y, y = v ∨ seen.getD y false = true → y ∈ T ∨ (∃ i, cr = some (y, i) ∧ ∀ j, j < i → ∀ z : Nat, z < g.length → (g.getD y []).getD j 0 = z → j < (g.getD y []).length → seen.getD z false = true) ∨ (∀ z, ed g y z → seen.getD z false = true)
section
variable {g : List (List Int)} {v : Nat} {seen : List Bool} {T : List Nat}
theorem Sk.start (hv : v < g.length) : Sk g v (List.replicate g.length false) [v] none where
  len := by simp
  led := fun w h => by
    rw [List.getD_eq_getElem?_getD, List.getElem?_replicate] at h
    split at h <;> cases h
  todo := fun x hx => by
    rw [List.mem_singleton] at hx
    subst hx
    exact ⟨hv, .inl rfl⟩
  cur := fun x i h => by cases h
  shut := fun y hy => by
    rcases hy with rfl | h
    · exact .inl (by simp)
    · rw [List.getD_eq_getElem?_getD, List.getElem?_replicate] at h
      split at h <;> cases h
theorem Sk.pop {x : Nat} (h : Sk g v seen (T ++ [x]) none) : Sk g v seen T (some (x, 0)) where
  len := h.len
  led := h.led
  todo := fun y hy => h.todo y (by simp [hy])
  cur := fun y i e => by cases e; exact h.todo x (by simp)
  shut := fun y hy => by
    rcases h.shut y hy with h1 | ⟨i, h1, _⟩ | h1
    · rcases List.mem_append.1 h1 with h1 | h1
      · exact .inl h1
      · rw [List.mem_singleton] at h1
        subst h1
        exact .inr (.inl ⟨0, rfl, fun j hj => by omega⟩)
    · cases h1
    · exact .inr (.inr h1)
theorem Sk.done {x i : Nat} (h : Sk g v seen T (some (x, i))) (hi : (g.getD x []).length ≤ i) : Sk g v seen T none where
  len := h.len
  led := h.led
  todo := h.todo
  cur := fun y i e => by cases e
  shut := fun y hy => by
    rcases h.shut y hy with h1 | ⟨i', h1, h2⟩ | h1
    · exact .inl h1
    · cases h1
      refine .inr (.inr fun z hz => ?_)
      obtain ⟨_, z2, z3⟩ := hz
      obtain ⟨j, hj, e⟩ := mem_getD 0 z3
      exact h2 j (by omega) z z2 e hj
    · exact .inr (.inr h1)
theorem Sk.skip {x i : Nat} (h : Sk g v seen T (some (x, i))) (hz : ∀ z : Nat, z < g.length → (g.getD x []).getD i 0 = z → seen.getD z false = true) : Sk g v seen T (some (x, i + 1)) where
  len := h.len
  led := h.led
  todo := h.todo
  cur := fun y j e => by cases e; exact h.cur x i rfl
  shut := fun y hy => by
    rcases h.shut y hy with h1 | ⟨i', h1, h2⟩ | h1
    · exact .inl h1
    · cases h1
      refine .inr (.inl ⟨i + 1, rfl, fun j hj z z1 z2 z3 => ?_⟩)
      by_cases e : j = i
      · subst e; exact hz z z1 z2
      · exact h2 j (by omega) z z1 z2 z3
    · exact .inr (.inr h1)
theorem Sk.push {x i z : Nat} (h : Sk g v seen T (some (x, i))) (hi : i < (g.getD x []).length) (hz : z < g.length) (e : (g.getD x []).getD i 0 = z) : Sk g v (seen.set z true) (T ++ [z]) (some (x, i + 1)) := by
  have hl := h.len
  have key : ∀ y, (seen.set z true).getD y false = if z = y then true else seen.getD y false := fun y => getD_set' (by omega)
  have up : ∀ y, seen.getD y false = true → (seen.set z true).getD y false = true := fun y hy => by
    rw [key]
    split
    · rfl
    · exact hy
  refine ⟨by simpa using hl, fun w hw => ?_, fun y hy => ?_, fun y j e => ?_, fun y hy => ?_⟩
  · rw [key] at hw
    split at hw
    · rename_i ew
      subst ew
      obtain ⟨h1, h2⟩ := h.cur x i rfl
      have he : ed g x z := ⟨h1, hz, by rw [← e]; exact getD_in hi⟩
      rcases h2 with rfl | h2
      · exact .one he
      · exact (h.led _ h2).tail he
    · exact h.led w hw
  · rcases List.mem_append.1 hy with hy | hy
    · obtain ⟨h1, h2⟩ := h.todo y hy
      exact ⟨h1, h2.imp id (up y)⟩
    · rw [List.mem_singleton] at hy
      subst hy
      exact ⟨hz, .inr (by rw [key, if_pos rfl])⟩
  · cases e
    obtain ⟨h1, h2⟩ := h.cur x i rfl
    exact ⟨h1, h2.imp id (up x)⟩
  · by_cases ey : y = z
    · exact .inl (by rw [ey]; simp)
    · have hy' : y = v ∨ seen.getD y false = true := by
        rcases hy with hy | hy
        · exact .inl hy
        · rw [key, if_neg (fun e => ey e.symm)] at hy; exact .inr hy
      rcases h.shut y hy' with h1 | ⟨i', h1, h2⟩ | h1
      · exact .inl (by simp [h1])
      · cases h1
        refine .inr (.inl ⟨i + 1, rfl, fun j hj w z1 z2 z3 => ?_⟩)
        by_cases ej : j = i
        · subst ej
          have : w = z := by have := z2.symm.trans e; omega
          subst this
          rw [key, if_pos rfl]
        · exact up _ (h2 j (by omega) w z1 z2 z3)
      · exact .inr (.inr fun w hw => up _ (h1 w hw))
theorem Sk.fin (h : Sk g v seen [] none) {w : Nat} (hw : Led (ed g) v w) : seen.getD w false = true := by
  have cl : ∀ y, y = v ∨ seen.getD y false = true → ∀ z, ed g y z → seen.getD z false = true := fun y hy z hz => by
    rcases h.shut y hy with h1 | ⟨i, h1, _⟩ | h1
    · cases h1
    · cases h1
    · exact h1 z hz
  exact hw.ind (fun c e => cl v (.inl rfl) c e) fun b c hb e => cl b (.inr hb) c e
theorem Sk.count {cur : Option (Nat × Nat)} (h : Sk g v seen T cur) : falses seen ≤ g.length := by
  have := h.len
  have h2 : seen.count false ≤ seen.length := List.count_le_length
  unfold falses
  omega
end
noncomputable def b83 : Code := bodyOf Try.f83
noncomputable def C83 : Cfg Ty := ⟨fun _ => none, fun
  | 12 => true
  | _ => false, 77, 0⟩
def U83 : Cuts := ⟨fun
  | 0 => some [(5, none)]
  | 1 => some [(0, none), (5, none), (6, some 3)]
  | 2 => some [(0, none), (5, none), (6, some 3)]
  | _ => none, fun
  | 0 => some [(0, none), (5, none), (6, some 3)]
  | 2 => some [(0, none), (5, none), (6, some 3), (7, none), (8, none)]
  | _ => none, fun _ => none⟩
/-- join 0: live: 5 -/
noncomputable def k83_j0 : List Item := [.code (sndC (sndC (sndC (sndC (sndC b83)))))]
/-- loop 0: live: 0, 5, 6 -/
noncomputable def k83_l0 : List Item := [.code (inC (inC (fstC (sndC (sndC (sndC (sndC b83))))))), .inLoop (inC (inC (fstC (sndC (sndC (sndC (sndC b83))))))), .inBlock 0, .code (sndC (sndC (sndC (sndC (sndC b83)))))]
/-- join 1: live: 0, 5, 6 -/
noncomputable def k83_j1 : List Item := [.inLoop (inC (inC (fstC (sndC (sndC (sndC (sndC b83))))))), .inBlock 0, .code (sndC (sndC (sndC (sndC (sndC b83)))))]
/-- join 2: live: 0, 5, 6 -/
noncomputable def k83_j2 : List Item := [.inBlock 1, .inLoop (inC (inC (fstC (sndC (sndC (sndC (sndC b83))))))), .inBlock 0, .code (sndC (sndC (sndC (sndC (sndC b83)))))]
/-- loop 2: live: 0, 5, 6, 7, 8 -/
noncomputable def k83_l2 : List Item := [.code (inC (inC (sndC (sndC (sndC (inC (sndC (inC (inC (fstC (sndC (sndC (sndC (sndC b83)))))))))))))), .inLoop (inC (inC (sndC (sndC (sndC (inC (sndC (inC (inC (fstC (sndC (sndC (sndC (sndC b83)))))))))))))), .inBlock 2, .inBlock 1, .inLoop (inC (inC (fstC (sndC (sndC (sndC (sndC b83))))))), .inBlock 0, .code (sndC (sndC (sndC (sndC (sndC b83)))))]
def a83 (g : List (List Int)) (v : Int) : List (AV Ty) := [.sl false (30 : Nat) g, .v (.int .i64 v)]
noncomputable def R83 (g : List (List Int)) (v : Int) : St Ty → EvR := resT tb C83 Try.f83.results.toList (.own 4) (a83 g v)
def s83_l0 (g : List (List Int)) (v : Int) (h0 : List Bool) (h1 : List Int) : St Ty := St.mk [(0, .sl false (30) g), (5, .ref (0) [] none false), (6, .ref (1) [] none false)] [some (Root.mk (4) true h0), some (Root.mk (3) false h1)]
def s83_l2 (g : List (List Int)) (v : Int) (v7 : Int) (v8 : Int) (h0 : List Bool) (h1 : List Int) : St Ty := St.mk [(0, .sl false (30) g), (5, .ref (0) [] none false), (6, .ref (1) [] none false), (7, .v (.int .i64 v7)), (8, .v (.int .i64 v8))] [some (Root.mk (4) true h0), some (Root.mk (3) false h1)]
def s83_j0 (g : List (List Int)) (v : Int) (h0 : List Bool) : St Ty := St.mk [(5, .ref (0) [] none false)] [some (Root.mk (4) true h0)]
def s83_j2 (g : List (List Int)) (v : Int) (h0 : List Bool) (h1 : List Int) : St Ty := St.mk [(0, .sl false (30) g), (5, .ref (0) [] none false), (6, .ref (1) [] none false)] [some (Root.mk (4) true h0), some (Root.mk (3) false h1)]
def s83_j1 (g : List (List Int)) (v : Int) (h0 : List Bool) (h1 : List Int) : St Ty := St.mk [(0, .sl false (30) g), (5, .ref (0) [] none false), (6, .ref (1) [] none false)] [some (Root.mk (4) true h0), some (Root.mk (3) false h1)]
theorem e83 (J : List Item → St Ty → EvR) (g : List (List Int)) (v : Int) : run tb C83 U83 J (R83 g v) 4096 [.code b83] ⟨slotsA (a83 g v) 0 0, heapA (a83 g v)⟩ =
    if (0 : Int) ≤ (↑g.length : Int) ∧ (↑g.length : Int) ≤ (↑g.length : Int) ∧ (↑g.length : Int) ≤ (1099511627776 : Int) ∧ (↑g.length : Int) * (↑(1 : Nat) : Int) ≤ (1099511627776 : Int) then
     if decide (v < (0 : Int)) = false then
      if decide (v ≥ (↑g.length : Int)) = true then
       some (.sl true (4 : Nat) (List.replicate (↑g.length : Int).toNat false), [.dead, .dead])
      else
       J k83_l0 (s83_l0 g v (List.replicate (↑g.length : Int).toNat false) ([v]))
     else
      some (.sl true (4 : Nat) (List.replicate (↑g.length : Int).toNat false), [.dead, .dead])
    else
     none := by kernel_rfl
theorem e83_l0 (J : List Item → St Ty → EvR) (g : List (List Int)) (v : Int) (h0 : List Bool) (h1 : List Int) : run tb C83 U83 J (R83 g v) 4096 k83_l0 (s83_l0 g v h0 h1) =
    if decide ((↑h1.length : Int) > (0 : Int)) = true then
     if (0 : Int) ≤ IntKind.i64.wrap ((↑h1.length : Int) - (1 : Int)) then
      if IntKind.i64.wrap ((↑h1.length : Int) - (1 : Int)) < (↑h1.length : Int) then
       if (0 : Int) ≤ (0 : Int) ∧ (0 : Int) ≤ IntKind.i64.wrap ((↑h1.length : Int) - (1 : Int)) ∧ IntKind.i64.wrap ((↑h1.length : Int) - (1 : Int)) ≤ (↑h1.length : Int) then
        J k83_l2 (s83_l2 g v (h1.getD ((0 : Nat) + (IntKind.i64.wrap ((↑h1.length : Int) - (1 : Int))).toNat) (0 : Int)) (0 : Int) (h0) (List.take ((IntKind.i64.wrap ((↑h1.length : Int) - (1 : Int))).toNat - Int.toNat (0 : Int)) (List.drop ((0 : Nat) + Int.toNat (0 : Int)) h1)))
       else
        none
      else
       none
     else
      none
    else
     J k83_j0 (s83_j0 g v (h0)) := by kernel_rfl
theorem e83_l2 (J : List Item → St Ty → EvR) (g : List (List Int)) (v : Int) (v7 : Int) (v8 : Int) (h0 : List Bool) (h1 : List Int) : run tb C83 U83 J (R83 g v) 4096 k83_l2 (s83_l2 g v v7 v8 h0 h1) =
    if (0 : Int) ≤ v7 then
     if v7 < (↑g.length : Int) then
      if decide (v8 < (↑(List.length (g.getD v7.toNat [])) : Int)) = true then
       if (0 : Int) ≤ v7 then
        if v7 < (↑g.length : Int) then
         if (0 : Int) ≤ v8 then
          if v8 < (↑(List.length (g.getD v7.toNat [])) : Int) then
           if decide (List.getD (g.getD v7.toNat []) v8.toNat (0 : Int) ≥ (0 : Int)) = true then
            if decide (List.getD (g.getD v7.toNat []) v8.toNat (0 : Int) < (↑g.length : Int)) = true then
             if (0 : Int) ≤ List.getD (g.getD v7.toNat []) v8.toNat (0 : Int) then
              if List.getD (g.getD v7.toNat []) v8.toNat (0 : Int) < (↑h0.length : Int) then
               if (!h0.getD ((0 : Nat) + Int.toNat (List.getD (g.getD v7.toNat []) v8.toNat (0 : Int))) false) = true then
                if (0 : Int) ≤ List.getD (g.getD v7.toNat []) v8.toNat (0 : Int) then
                 if List.getD (g.getD v7.toNat []) v8.toNat (0 : Int) < (↑h0.length : Int) then
                  if h1.length + [List.getD (g.getD v7.toNat []) v8.toNat (0 : Int)].length + (1 : Nat) ≤ (549755813888 : Nat) ∧ (h1.length + [List.getD (g.getD v7.toNat []) v8.toNat (0 : Int)].length + (1 : Nat)) * (8 : Nat) ≤ (549755813888 : Nat) then
                   J k83_l2 (s83_l2 g v (v7) (IntKind.i64.wrap (v8 + (1 : Int))) (h0.set ((0 : Nat) + Int.toNat (List.getD (g.getD v7.toNat []) v8.toNat (0 : Int))) true) (h1 ++ [List.getD (g.getD v7.toNat []) v8.toNat (0 : Int)]))
                  else
                   none
                 else
                  none
                else
                 none
               else
                J k83_l2 (s83_l2 g v (v7) (IntKind.i64.wrap (v8 + (1 : Int))) (h0) (h1))
              else
               none
             else
              none
            else
             J k83_l2 (s83_l2 g v (v7) (IntKind.i64.wrap (v8 + (1 : Int))) (h0) (h1))
           else
            J k83_l2 (s83_l2 g v (v7) (IntKind.i64.wrap (v8 + (1 : Int))) (h0) (h1))
          else
           none
         else
          none
        else
         none
       else
        none
      else
       J k83_j2 (s83_j2 g v (h0) (h1))
     else
      none
    else
     none := by kernel_rfl
theorem e83_j0 (J : List Item → St Ty → EvR) (g : List (List Int)) (v : Int) (h0 : List Bool) : run tb C83 U83 J (R83 g v) 4096 k83_j0 (s83_j0 g v h0) =
    some (.sl true (4) h0, [.dead, .dead]) := by kernel_rfl
theorem e83_j2 (J : List Item → St Ty → EvR) (g : List (List Int)) (v : Int) (h0 : List Bool) (h1 : List Int) : run tb C83 U83 J (R83 g v) 4096 k83_j2 (s83_j2 g v h0 h1) =
    J k83_j1 (s83_j1 g v (h0) (h1)) := by kernel_rfl
theorem e83_j1 (J : List Item → St Ty → EvR) (g : List (List Int)) (v : Int) (h0 : List Bool) (h1 : List Int) : run tb C83 U83 J (R83 g v) 4096 k83_j1 (s83_j1 g v h0 h1) =
    J k83_l0 (s83_l0 g v (h0) (h1)) := by kernel_rfl

theorem in83 : Entered 83 := ⟨Try.f83, b83, by kernel_rfl, by kernel_rfl, by kernel_rfl⟩
theorem fn83 (g : List (List Int)) (v : Int) {res : AV Ty} {outs : List (AV Ty)} (h : Ends C83 U83 (R83 g v) [.code b83] ⟨slotsA (a83 g v) 0 0, heapA (a83 g v)⟩ (some (res, outs))) : CallOk tb Try.prog 83 (a83 g v) res outs := by
  obtain ⟨n0, hn⟩ := h
  exact fn_ok (C := C83) (U := U83) (n := 0 + n0) (q := (.own 4)) tbOk good (fun f mu S h => by cases h) mixed (fn := Try.f83) (body := b83) (by kernel_rfl) (by kernel_rfl) rfl rfl (by show 2 ≤ 77; omega) (hn 0)
section
variable {g : List (List Int)} {v : Nat}
theorem leads_in (hg : smallRows g) : ∀ (m i x : Nat) (seen : List Bool) (T : List Nat), i + m = (g.getD x []).length → Sk g v seen T (some (x, i)) → T.length + falses seen ≤ g.length →
    ∃ seen' T', Sk g v seen' T' none ∧ T'.length + falses seen' = T.length + falses seen ∧ Goes C83 U83 (R83 g v) k83_l2 (s83_l2 g v x i seen (intL T)) k83_l0 (s83_l0 g v seen' (intL T'))
  | 0, i, x, seen, T, hm, h, hc => by
    obtain ⟨h1, _⟩ := h.cur x i rfl
    have := hg.1
    refine ⟨seen, T, h.done (by omega), rfl, Goes.trans (.step fun J => ?_) (Goes.trans (.step fun J => e83_j2 J g v seen (intL T)) (.step fun J => e83_j1 J g v seen (intL T)))⟩
    rw [e83_l2, Int.toNat_natCast]
    simp (disch := first | omega | assumption | (rw [decide_eq_true_eq]; omega) | (rw [decide_eq_false_iff_not]; omega)) only [↓if_pos, ↓if_neg, if_true, if_false, wrap_up, Int.toNat_natCast, Nat.zero_add]
  | m + 1, i, x, seen, T, hm, h, hc => by
    obtain ⟨h1, _⟩ := h.cur x i rfl
    have hlen := h.len
    have b1 := hg.1
    have b2 := hg.2 _ (getD_in (d := []) h1)
    have hi : i < (g.getD x []).length := by omega
    by_cases hz : ∃ z : Nat, z < g.length ∧ (g.getD x []).getD i 0 = z ∧ seen.getD z false = false
    · obtain ⟨z, z1, z2, z3⟩ := hz
      have hf := falses_set (l := seen) (i := z) (by omega) z3
      obtain ⟨seen', T', k1, k2, k3⟩ := leads_in hg m (i + 1) x (seen.set z true) (T ++ [z]) (by omega) (h.push hi z1 z2) (by rw [List.length_append, List.length_singleton]; omega)
      refine ⟨seen', T', k1, by rw [k2, List.length_append, List.length_singleton]; omega, Goes.trans (.step fun J => ?_) k3⟩
      have hT : (intL T).length ≤ 1000 := by rw [intL_len]; omega
      have z4 : (!seen.getD z false) = true := by rw [z3]; rfl
      rw [e83_l2, Int.toNat_natCast, Int.toNat_natCast, z2, Int.toNat_natCast, Nat.zero_add, z3]
      simp (disch := first | omega | assumption | (rw [decide_eq_true_eq]; omega) | (rw [decide_eq_false_iff_not]; omega)) only [↓if_pos, ↓if_neg, if_true, if_false, wrap_up, Int.toNat_natCast, Nat.zero_add, intL_app, List.length_singleton]
      rfl
    · have hz' : ∀ z : Nat, z < g.length → (g.getD x []).getD i 0 = z → seen.getD z false = true := fun z z1 z2 => by
        cases hh : seen.getD z false with
        | true => rfl
        | false => exact absurd ⟨z, z1, z2, hh⟩ hz
      obtain ⟨seen', T', k1, k2, k3⟩ := leads_in hg m (i + 1) x seen T (by omega) (h.skip hz') hc
      refine ⟨seen', T', k1, k2, Goes.trans (.step fun J => ?_) k3⟩
      rw [e83_l2, Int.toNat_natCast, Int.toNat_natCast]
      by_cases c1 : 0 ≤ (g.getD x []).getD i 0
      · by_cases c2 : (g.getD x []).getD i 0 < g.length
        · obtain ⟨z, ez⟩ := Int.eq_ofNat_of_zero_le c1
          have z3 := hz' z (by omega) ez
          rw [ez, Int.toNat_natCast, Nat.zero_add, z3]
          simp (disch := first | omega | assumption | (rw [decide_eq_true_eq]; omega) | (rw [decide_eq_false_iff_not]; omega)) only [↓if_pos, ↓if_neg, if_true, if_false, wrap_up, Int.toNat_natCast, Nat.zero_add, Bool.not_true, Bool.false_eq_true]
          rfl
        · simp (disch := first | omega | assumption | (rw [decide_eq_true_eq]; omega) | (rw [decide_eq_false_iff_not]; omega)) only [↓if_pos, ↓if_neg, if_true, if_false, wrap_up, Int.toNat_natCast, Nat.zero_add]
          rfl
      · simp (disch := first | omega | assumption | (rw [decide_eq_true_eq]; omega) | (rw [decide_eq_false_iff_not]; omega)) only [↓if_pos, ↓if_neg, if_true, if_false, wrap_up, Int.toNat_natCast, Nat.zero_add]
        rfl
theorem leads_all (hg : smallRows g) (hv : v < g.length) : ∃ seen, Sk g v seen [] none ∧ Goes C83 U83 (R83 g v) k83_l0 (s83_l0 g v (List.replicate g.length false) [(v : Int)]) k83_j0 (s83_j0 g v seen) := by
  obtain ⟨⟨seen, T⟩, h1, h2, h3⟩ := Goes.loop (C := C83) (U := U83) (Rt := R83 g v) (k := k83_l0) (fun p : List Bool × List Nat => s83_l0 g v p.1 (intL p.2)) (fun p => Sk g v p.1 p.2 none ∧ p.2.length + falses p.1 ≤ g.length + 1) (fun p => p.2 = []) (fun p => p.2.length + falses p.1) (fun p hp hT => by
    obtain ⟨seen, T⟩ := p
    obtain ⟨hp, hc⟩ := hp
    obtain ⟨R, x, e⟩ := split_last (T := T) (by cases T with | nil => exact absurd rfl hT | cons a l => simp)
    simp only at e hp hc
    subst e
    have hb := hg.1
    rw [List.length_append, List.length_singleton] at hc
    obtain ⟨seen', T', k1, k2, k3⟩ := leads_in hg _ 0 x seen R (Nat.zero_add _) hp.pop (by omega)
    refine ⟨(seen', T'), ⟨k1, by simp only; omega⟩, by simp only [List.length_append, List.length_singleton]; omega, Goes.trans (.step fun J => ?_) k3⟩
    have hl : (intL (R ++ [x])).length = R.length + 1 := by rw [intL_len]; simp
    have hs : ((R.length + 1 : Nat) : Int) - 1 = (R.length : Nat) := by omega
    simp only
    rw [e83_l0, hl, hs, wrap_up (by omega), Int.toNat_natCast, Nat.zero_add, last_get]
    simp (disch := first | omega | assumption | (rw [decide_eq_true_eq]; omega) | (rw [decide_eq_false_iff_not]; omega)) only [↓if_pos, ↓if_neg, if_true, if_false, wrap_up, Int.toNat_natCast, Nat.zero_add, Int.toNat_zero, List.drop_zero, Nat.sub_zero, last_take]
    rfl) (1 + falses (List.replicate g.length false) + 1) (List.replicate g.length false, [v]) (by simp) ⟨.start hv, by
      have := (Sk.start hv).count
      simp only [List.length_singleton]
      omega⟩
  simp only at h2
  subst h2
  refine ⟨seen, h1.1, h3.trans (.step fun J => ?_)⟩
  simp only
  rw [e83_l0]
  simp (disch := first | omega | assumption | (rw [decide_eq_true_eq]; omega) | (rw [decide_eq_false_iff_not]; omega)) only [↓if_pos, ↓if_neg, if_true, if_false, wrap_up, Int.toNat_natCast, Nat.zero_add, intL, List.map_nil, List.length_nil]
end
theorem leads_ok (g : List (List Int)) (v : Int) (hg : smallRows g) : CallOk tb Try.prog 83 (a83 g v) (.sl true 4 (leadL g v)) [.dead, .dead] := by
  refine fn83 g v ?_
  have hb := hg.1
  by_cases hv : 0 ≤ v ∧ v < g.length
  · obtain ⟨k, rfl⟩ := Int.eq_ofNat_of_zero_le hv.1
    have hk : k < g.length := by omega
    obtain ⟨seen, h1, h2⟩ := leads_all (v := k) hg hk
    have e : seen = leadL g k := by
      refine ext_getD false (by rw [leadL_len, h1.len]) fun w hw => ?_
      rw [leadL_get hk (by have := h1.len; omega)]
      cases hh : ledB g k w with
      | true => exact h1.fin (ledB_iff.1 hh)
      | false =>
        cases hs : seen.getD w false with
        | false => rfl
        | true => rw [ledB_iff.2 (h1.led w hs)] at hh; cases hh
    subst e
    refine Goes.ends (.step fun J => ?_) (h2.ends (.step fun J => e83_j0 J g k _))
    rw [e83, Int.toNat_natCast]
    simp (disch := first | omega | assumption | (rw [decide_eq_true_eq]; omega) | (rw [decide_eq_false_iff_not]; omega)) only [↓if_pos, ↓if_neg, if_true, if_false, wrap_up, Int.toNat_natCast, Nat.zero_add]
  · refine .step fun J => ?_
    have e : leadL g v = List.replicate g.length false := by unfold leadL; rw [if_neg hv]
    rw [e83, Int.toNat_natCast, e]
    by_cases c : v < 0
    · simp (disch := first | omega | assumption | (rw [decide_eq_true_eq]; omega) | (rw [decide_eq_false_iff_not]; omega)) only [↓if_pos, ↓if_neg, if_true, if_false, wrap_up, Int.toNat_natCast, Nat.zero_add]
      rfl
    · simp (disch := first | omega | assumption | (rw [decide_eq_true_eq]; omega) | (rw [decide_eq_false_iff_not]; omega)) only [↓if_pos, ↓if_neg, if_true, if_false, wrap_up, Int.toNat_natCast, Nat.zero_add]
      rfl
noncomputable def S83 : List (AV Ty) → T (AV Ty × List (AV Ty))
  | [.sl false 30 g, .v (.int .i64 v)] => .ite (smallRows g) (smallRows.dec g) (.ret (.sl true 4 (leadL g v), [.dead, .dead])) .fail
  | _ => .fail
theorem S83_ok (l : List (AV Ty)) (r : AV Ty) (outs : List (AV Ty)) (h : (S83 l).val = some (r, outs)) : CallOk tb Try.prog 83 l r outs := by
  unfold S83 at h
  split at h
  · rcases ite_val h with ⟨e, h⟩ | ⟨_, h⟩
    · cases h; exact leads_ok _ _ e
    · cases h
  · cases h
end Go.Proofs.Ytggibjbcbicpjaa.Ev
