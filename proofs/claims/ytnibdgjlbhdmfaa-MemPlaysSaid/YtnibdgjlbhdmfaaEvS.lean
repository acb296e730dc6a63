/- make of a slice, a slice literal. -/
import Derived.Test.YtnibdgjlbhdmfaaEvR
namespace Go.Proofs.Ytnibdgjlbhdmfaa.Ev
open Go
set_option linter.unusedVariables false
set_option linter.unusedSimpArgs false
section
variable {Ty : Nat → Type} (E : Tb Ty)
def partsA (z : Nat) (fr : List (Nat × AV Ty)) : Nat → List (Nat × Operand) → Option (List (AV Ty))
  | _, [] => some []
  | k, (i, x) :: l => match Nat.beq i k, cellsOfA (opA fr x) with
    | true, some ds => match Nat.beq ds.length z, partsA z fr (k + 1) l with
      | true, some r => some (ds ++ r)
      | _, _ => none
    | _, _ => none
def decN (m : Bool) (t : Nat) : Nat → List (AV Ty) → Option (List (Ty t))
  | 0, _ => some []
  | n + 1, cs => match (E.cod t).dec m (cs.take (szOf E t)) with
    | some x => match decN m t n (cs.drop (szOf E t)) with
      | some xs => some (x :: xs)
      | none => none
    | none => none
def litT (m : Bool) (hp : Heap Ty) (fr : List (Nat × AV Ty)) (e n : Nat) (ei : TI) (parts : List (Nat × Operand)) : T (EffR Ty) :=
  match Nat.beq n parts.length, E.has e, Nat.ble (n * ei.sz) 16777216 with
  | true, true, true => match partsA ei.sz fr 0 parts with
    | some ds => match toCells m hp ((List.replicate n ((E.cod e).enc m (E.cod e).zero)).flatten) ds with
      | some (cs, hp1, ks) => match decN E m e n cs with
        | some xs => .ret (.ref hp1.length [] none false, hp1 ++ [some ⟨e, m, xs⟩], ks)
        | none => .fail
      | none => .fail
    | none => .fail
  | _, _, _ => .fail
def makeT (m : Bool) (hp : Heap Ty) (e : Nat) (ei : TI) (l c : AV Ty) : T (EffR Ty) := match E.has e, intA l, intA c with
  | true, some a, some b => .ite (0 ≤ a ∧ a ≤ b ∧ b ≤ 1099511627776 ∧ b * ei.bytes ≤ 1099511627776) inferInstance
      (.ret (.ref hp.length [] none false, hp ++ [some ⟨e, m, List.replicate a.toNat (E.cod e).zero⟩], [])) .fail
  | _, _, _ => .fail
variable {E}
variable {X : Set2} {W0 : World} {F F' : Set2} {w w' : World} {hp hp' : Heap Ty} {vals vals' : Nat → Value} {sets sets' : Nat → Set2} {P : Program} {ρ : Operand → Value}
theorem parts_ok (G : Good E) (H : HRel E F w hp vals sets) {fr : List (Nat × AV Ty)} (hρ : ∀ x, VRep E F w hp vals (ρ x) (opA fr x)) {z : Nat} : ∀ (l : List (Nat × Operand)) (k : Nat) (ds : List (AV Ty)) (cells : Array Value), partsA z fr k l = some ds → (k + l.length) * z ≤ cells.size →
    ∃ cells' : Array Value, Instr.fill (fun i => some (i * z, z)) cells (l.map fun (i, x) => (i, ρ x)) = some cells' ∧ ∃ vs : List Value, cells'.toList = cells.toList.take (k * z) ++ vs ++ cells.toList.drop ((k + l.length) * z) ∧ vs.length = l.length * z ∧ CRep E F w hp vals vs ds
  | [], k, ds, cells, h, hz => by
    cases h
    exact ⟨cells, rfl, [], by simp, by simp, rfl, fun i v a e => by simp at e⟩
  | (i, x) :: l, k, ds, cells, h, hz => by
    unfold partsA at h
    split at h
    · rename_i d1 e1 e2
      split at h
      · rename_i r e3 e4
        cases h
        have hi := Nat.eq_of_beq_eq_true e1
        have hd := Nat.eq_of_beq_eq_true e3
        subst hi
        have hC := cellsOf_ok G H (hρ x) e2
        have hsz : (ρ x).cells.size = z := by have := hC.1; simp at this; omega
        simp only [List.length_cons] at hz ⊢
        have hz1 : i * z + z + l.length * z ≤ cells.size := by
          rw [show i + (l.length + 1) = i + 1 + l.length by omega, Nat.add_mul, Nat.succ_mul] at hz
          exact hz
        have hf := foldl_cells (ρ x).cells.toList 0 (i * z) cells (by simp [hsz]; omega)
        rw [Nat.add_zero] at hf
        have hfl : (((ρ x).cells.zipIdx.foldl (fun cs (c, j) => cs.setIfInBounds (i * z + j) c) cells)).toList = cells.toList.take (i * z) ++ (ρ x).cells.toList ++ cells.toList.drop (i * z + z) := by
          rw [← Array.foldl_toList, Array.toList_zipIdx, hf]
          simp [hsz]
        obtain ⟨cells', k1, vs, k2, k3, k4⟩ := parts_ok G H hρ l (i + 1) r (((ρ x).cells.zipIdx.foldl (fun cs (c, j) => cs.setIfInBounds (i * z + j) c) cells)) e4 (by
          have : (((ρ x).cells.zipIdx.foldl (fun cs (c, j) => cs.setIfInBounds (i * z + j) c) cells)).size = cells.size := by
            rw [← Array.length_toList, hfl]; simp [hsz]; omega
          rw [this, Nat.add_mul, Nat.succ_mul]
          omega)
        refine ⟨cells', ?_, (ρ x).cells.toList ++ vs, ?_, ?_, ?_, ?_⟩
        · simp only [List.map_cons, Instr.fill]
          rw [if_neg (by simp [hsz]; omega)]
          exact k1
        · rw [k2, hfl]
          have t1 : (cells.toList.take (i * z) ++ (ρ x).cells.toList).length = (i + 1) * z := by simp [hsz, Nat.succ_mul]; omega
          have q1 : (cells.toList.take (i * z) ++ (ρ x).cells.toList ++ cells.toList.drop (i * z + z)).take ((i + 1) * z) = cells.toList.take (i * z) ++ (ρ x).cells.toList := List.take_left' t1
          have q2 : (cells.toList.take (i * z) ++ (ρ x).cells.toList ++ cells.toList.drop (i * z + z)).drop ((i + 1 + l.length) * z) = cells.toList.drop ((i + (l.length + 1)) * z) := by
            rw [Nat.add_mul (i + 1), ← t1, List.drop_length_add_append, List.drop_drop]
            congr 1
            rw [show i + (l.length + 1) = i + 1 + l.length by omega, Nat.add_mul, Nat.succ_mul]
          rw [q1, q2]
          simp only [List.append_assoc]
        · simp [hsz, k3, Nat.succ_mul]; omega
        · simp [hC.1, k4.1]
        · intro q v a q1 q2
          by_cases hq : q < d1.length
          · rw [List.getElem?_append_left (by rw [hC.1]; exact hq)] at q1
            rw [List.getElem?_append_left hq] at q2
            exact hC.2 q v a q1 q2
          · rw [List.getElem?_append_right (by rw [hC.1]; omega), hC.1] at q1
            rw [List.getElem?_append_right (by omega)] at q2
            exact k4.2 _ v a q1 q2
      · cases h
    · cases h
theorem decN_ok (G : Good E) {m : Bool} {t : Nat} : ∀ (n : Nat) (cs : List (AV Ty)) (xs : List (Ty t)), decN E m t n cs = some xs → xs.length = n ∧ ∀ (i : Nat) x (o : Nat) a, xs[i]? = some x → ((E.cod t).enc m x)[o]? = some a → cs[i * szOf E t + o]? = some a
  | 0, cs, xs, h => by cases h; exact ⟨rfl, fun i x o a e => by simp at e⟩
  | n + 1, cs, xs, h => by
    unfold decN at h
    split at h
    · rename_i x0 e1
      split at h
      · rename_i xs0 e2
        cases h
        have henc := G.dec _ _ _ _ e1
        obtain ⟨h1, h2⟩ := decN_ok G n _ _ e2
        refine ⟨by simp [h1], fun i x o a q1 q2 => ?_⟩
        have ho : o < szOf E t := by have := get_lt q2; rw [G.len] at this; exact this
        cases i with
        | zero =>
          cases q1
          rw [henc, List.getElem?_take, if_pos ho] at q2
          simpa using q2
        | succ i =>
          have := h2 i x o a (by simpa using q1) q2
          rw [List.getElem?_drop] at this
          rw [Nat.succ_mul, show i * szOf E t + szOf E t + o = szOf E t + (i * szOf E t + o) by omega]
          exact this
      · cases h
    · cases h
theorem zeros_size {α : Type} (n : Nat) (f : Nat → α) : ((Array.range n).map f).size = n := by simp
theorem lit_eff (K : TbOk E P) (G : Good E) (I : Inv E X W0 F w hp vals sets) {m : Bool} {fr : List (Nat × AV Ty)} (hρ : ∀ x, VRep E F w hp vals (ρ x) (opA fr x)) {t e n : Nat} {i ei : TI} (hi : E.ti t = some i) (hd : i.d = .slice e) (hei : E.ti e = some ei)
    {parts : Array (Nat × Operand)} {res : EffR Ty} (h : (litT E m hp fr e n ei parts.toList).val = some res) (o : Oper) (ho : o.op = .buildSlice t n parts) : EffOk E P ρ o X W0 F w hp vals res := by
  unfold litT at h
  split at h
  · rename_i b1 hh b3
    have hn := Nat.eq_of_beq_eq_true b1
    have hle := Nat.le_of_ble_eq_true b3
    split at h
    · rename_i ds hds
      split at h
      · rename_i cs hp1 ks hcs
        split at h
        · rename_i xs hxs
          cases h
          obtain ⟨d1, u1, u2⟩ := K.und _ _ hi
          rw [hd] at u2
          have := DOk.slice u2
          subst this
          obtain ⟨j0, hj1, hj2, hj3⟩ := K.info _ _ hei
          obtain ⟨hsz, j, z, hj4, hz1, hz2, _⟩ := K.zero _ _ hei hh
          have : j = j0 := Option.some.inj (hj4.symm.trans hj1)
          subst this
          obtain ⟨cells', f1, vs, f2, f3, f4⟩ := parts_ok G I.H hρ parts.toList 0 ds ((Array.range (n * ei.sz)).map fun k => (if n * ei.sz = 0 then (#[] : Array Value) else z.cells)[k % (if n * ei.sz = 0 then (#[] : Array Value) else z.cells).size]!) hds (by rw [zeros_size, Nat.zero_add, hn]; exact Nat.le_refl _)
          have hcl : cells'.toList = vs := by
            rw [f2]
            have : ((Array.range (n * ei.sz)).map fun k => (if n * ei.sz = 0 then (#[] : Array Value) else z.cells)[k % (if n * ei.sz = 0 then (#[] : Array Value) else z.cells).size]!).toList.drop ((0 + parts.toList.length) * ei.sz) = [] := by
              apply List.drop_eq_nil_of_le
              simp [hn]
            rw [this]
            simp
          obtain ⟨F1, Bn, H1, L, f, l, bn⟩ := toCells_ok G ds _ F hp hp1 ks cs vs I.H (fun _ _ h => h) (fun _ _ h => h) f4 hcs
          obtain ⟨x1, x2⟩ := decN_ok G n cs xs hxs
          have F1b : ∀ b j, F1 b j → b < w.heap.size := by
            intro b j h
            rcases L.fro b j h with h | ⟨r, R', h1, _, h2⟩
            · exact I.fb _ _ h
            · exact I.lt h1 h2
          have hvl : vs.length = n * szOf E e := by rw [f3, hsz, hn]
          have hC : Cont E F1 w m e xs vs (fun i o => if i < n ∧ o < szOf E e then Bn (i * szOf E e + o) else fun _ _ => False) := by
            refine ⟨by rw [hvl, x1], f.one, fun i x o a v e1 e2 e3 e4 => f.rep _ _ _ e3 (x2 i x o a e1 e2) e4, fun i x o t' ys v e1 e2 e3 => ?_, fun i o i' o' b j q1 q2 => ?_, fun i o b j q => ?_⟩
            · have ho : o < szOf E e := by have := get_lt e2; rw [G.len] at this; exact this
              rw [if_pos ⟨by rw [← x1]; exact get_lt e1, ho⟩]
              exact f.own _ _ _ _ e3 (x2 i x o _ e1 e2)
            · split at q1
              · split at q2
                · rename_i c1 c2
                  have := f.dj _ _ _ _ q1 q2
                  have a1 : (i * szOf E e + o) / szOf E e = i := by rw [Nat.mul_comm, Nat.mul_add_div (by omega), Nat.div_eq_of_lt c1.2, Nat.add_zero]
                  have a2 : (i' * szOf E e + o') / szOf E e = i' := by rw [Nat.mul_comm, Nat.mul_add_div (by omega), Nat.div_eq_of_lt c2.2, Nat.add_zero]
                  have : i = i' := by rw [← a1, ← a2, this]
                  subst this
                  exact ⟨rfl, by omega⟩
                · exact q2.elim
              · exact q1.elim
            · split at q
              · rename_i c1
                obtain ⟨t', ys, h⟩ := f.rg _ _ _ q
                have hx : xs[i]? = some (xs[i]'(by omega)) := List.getElem?_eq_getElem (by omega)
                have ho : o < ((E.cod e).enc m (xs[i]'(by omega))).length := by rw [G.len]; exact c1.2
                have ha := List.getElem?_eq_getElem ho
                have := x2 i _ o _ hx ha
                rw [h] at this
                refine ⟨_, t', ys, hx, ?_⟩
                rw [ha, ← Option.some.inj this]
              · exact q.elim
          have hO := alloc_own (T := e) (c := n) (cells := cells') G hC (by rw [← Array.length_toList, hcl, hvl]) (by omega) (fun k v e => by
            rw [← Array.getElem?_toList, hcl]; exact e) F1b
          obtain ⟨I', hs⟩ := push_ok G I L H1 (R := ⟨e, m, xs⟩) hO (fun b j h => by
            rcases h with h | ⟨i, o, h⟩
            · exact .inl h.1
            · split at h
              · exact .inr (bn _ _ _ h).2
              · exact h.elim)
          rw [x1] at I' hs
          refine ⟨_, _, _, F1, _, _, ?_, .inl rfl, I', ref_new (by rw [root_push, if_pos rfl]) (if_pos rfl), hs, fun j hj => .inr (if_neg (by rw [L.len]; exact Nat.ne_of_lt hj)), L.grow I, fun _ _ _ _ e => by cases e⟩
          refine okB (s := Instr.buildSlice t n (parts.map fun (i, x) => (i, ρ x))) (by unfold execOp; rw [ho]) ?_
          unfold Instr.buildSlice
          simp only [Bind.bind]
          rw [run_underlying u1]
          simp only
          rw [run_sizeOf hj1, hj2]
          rw [if_neg (by omega)]
          have hfill : Instr.fill (fun i => some (i * ei.sz, ei.sz)) ((Array.range (n * ei.sz)).map fun k => (if n * ei.sz = 0 then (#[] : Array Value) else z.cells)[k % (if n * ei.sz = 0 then (#[] : Array Value) else z.cells).size]!) (parts.map fun (i, x) => (i, ρ x)).toList = some cells' := by
            rw [Array.toList_map]; exact f1
          by_cases h0 : n * ei.sz = 0
          · simp only [if_pos h0] at hfill
            rw [if_pos h0]
            simp only [Pure.pure, Sem.bind]
            rw [hfill]
            rfl
          · simp only [if_neg h0] at hfill
            rw [if_neg h0, run_zeroValue hj1 hz1]
            simp only [Pure.pure, Sem.bind]
            rw [hfill]
            rfl
        · cases h
      · cases h
    · cases h
  · cases h
theorem make_eff (K : TbOk E P) (G : Good E) (I : Inv E X W0 F w hp vals sets) {m : Bool} {t e : Nat} {i ei : TI} (hi : E.ti t = some i) (hd : i.d = .slice e) (hei : E.ti e = some ei) {x y : Operand} {ax ay : AV Ty} (hx : VRep E F w hp vals (ρ x) ax) (hy : VRep E F w hp vals (ρ y) ay)
    {res : EffR Ty} (h : (makeT E m hp e ei ax ay).val = some res) (o : Oper) (ho : o.op = .makeSlice t x y) : EffOk E P ρ o X W0 F w hp vals res := by
  unfold makeT at h
  split at h
  · rename_i a b hh ha hb
    rcases ite_val h with ⟨⟨g1, g2, g3, g4⟩, h⟩ | ⟨_, h⟩
    · cases h
      obtain ⟨d1, u1, u2⟩ := K.und _ _ hi
      rw [hd] at u2
      have := DOk.slice u2
      subst this
      obtain ⟨j0, hj1, hj2, hj3⟩ := K.info _ _ hei
      obtain ⟨hsz, j, z, hj4, hz1, hz2, _⟩ := K.zero _ _ hei hh
      have : j = j0 := Option.some.inj (hj4.symm.trans hj1)
      subst this
      obtain ⟨k1, e1⟩ := asInt_of hx ha
      obtain ⟨k2, e2⟩ := asInt_of hy hb
      obtain ⟨j', z', hj5, hz5, hz6, hC1⟩ := cont_zero K G hei hh m F w
      have : j' = j := Option.some.inj (hj5.symm.trans hj1)
      subst this
      have : z' = z := Option.some.inj (hz5.symm.trans hz1)
      subst this
      have hC : Cont E F w m e (List.replicate a.toNat (E.cod e).zero) (rowVals (fun _ o => z'.cells[o]!) a.toNat (szOf E e)) (fun _ _ _ _ => False) := by
        have key : ∀ (i : Nat) x (o : Nat) a' v, (List.replicate a.toNat (E.cod e).zero)[i]? = some x → ((E.cod e).enc m x)[o]? = some a' → (rowVals (fun _ o => z'.cells[o]!) a.toNat (szOf E e))[i * szOf E e + o]? = some v → x = (E.cod e).zero ∧ z'.cells.toList[0 * szOf E e + o]? = some v := by
          intro i x o a' v q1 q2 q3
          have hi' := get_lt q1
          rw [List.length_replicate] at hi'
          have ho : o < szOf E e := by have := get_lt q2; rw [G.len] at this; exact this
          rw [List.getElem?_replicate, if_pos hi'] at q1
          rw [rowVals_get hi' ho] at q3
          refine ⟨(Option.some.inj q1).symm, ?_⟩
          rw [← Option.some.inj q3]
          simp only [Nat.zero_mul, Nat.zero_add, Array.getElem?_toList]
          have : o < z'.cells.size := by rw [hz6]; exact ho
          rw [Array.getElem?_eq_getElem this]
          simp [this]
        refine ⟨by rw [rowVals_len]; simp, fun v hv => ?_, fun i x o a' v q1 q2 q3 q4 => ?_, fun i x o t' ys v q1 q2 q3 => ?_, fun _ _ _ _ _ _ h => h.elim, fun _ _ _ _ h => h.elim⟩
        · unfold rowVals at hv
          obtain ⟨k, hk, rfl⟩ := List.mem_map.1 hv
          obtain ⟨_, q2, _⟩ := div_lt (List.mem_range.1 hk)
          have hlt : k % szOf E e < z'.cells.size := by rw [hz6]; exact q2
          refine hC1.one _ ?_
          simp only [hlt, getElem!_pos]
          exact Array.mem_toList_iff.2 (Array.getElem_mem hlt)
        · obtain ⟨rfl, q5⟩ := key _ _ _ _ _ q1 q2 q3
          exact hC1.rep 0 _ o a' v rfl q2 q5 q4
        · obtain ⟨rfl, q5⟩ := key _ _ _ _ _ q1 q2 q3
          exact hC1.own 0 _ o t' ys v rfl q2 q5
      have hO := alloc_own (T := e) (c := b.toNat) (cells := (Array.range (b.toNat * szOf E e)).map fun k => (if b.toNat * szOf E e = 0 then (#[] : Array Value) else z'.cells)[k % (if b.toNat * szOf E e = 0 then (#[] : Array Value) else z'.cells).size]!) G hC (zeros_size _ _) (by simp; omega) (fun k v e' => by
        have hk := get_lt e'
        rw [rowVals_len] at hk
        have hle : a.toNat * szOf E e ≤ b.toNat * szOf E e := Nat.mul_le_mul_right _ (by omega)
        unfold rowVals at e'
        rw [List.getElem?_map, List.getElem?_range hk] at e'
        rw [← Option.some.inj e']
        have hk2 : k < b.toNat * szOf E e := by omega
        rw [Array.getElem?_map, Array.getElem?_range, if_pos hk2]
        simp only [Option.map_some]
        rw [if_neg (by omega), hz6]) I.fb
      obtain ⟨I', hs⟩ := push_ok G I (Less.refl F sets hp) I.H (R := ⟨e, m, List.replicate a.toNat (E.cod e).zero⟩) hO (fun b j h => by
        rcases h with h | ⟨_, _, h⟩
        · exact .inl h.1
        · exact h.elim)
      rw [List.length_replicate] at I' hs
      refine ⟨_, _, _, F, _, _, ?_, .inl rfl, I', ref_new (by rw [root_push, if_pos rfl]) (if_pos rfl), hs, fun j hj => .inr (if_neg (Nat.ne_of_lt hj)), Grow.refl _ _ _, fun _ _ _ _ e => by cases e⟩
      refine okB (s := Instr.makeSlice t (ρ x) (ρ y)) (by unfold execOp; rw [ho]) ?_
      have w1 : IntKind.i64.wrap a = a := by unfold IntKind.wrap; simp [IntKind.bits, IntKind.signed]; omega
      have w2 : IntKind.i64.wrap b = b := by unfold IntKind.wrap; simp [IntKind.bits, IntKind.signed]; omega
      have c1 : ¬ (b < 0) := by omega
      have c2 : ¬ ((j'.bytes : Int) * b > 2 ^ 48) := by
        rw [hj3]
        rw [Int.mul_comm]
        omega
      unfold Instr.makeSlice
      simp only [Bind.bind]
      rw [run_underlying u1]
      simp only [e1, e2, asInt, asIntOf, Bind.bind, Pure.pure, Sem.bind]
      rw [run_typeInfo hj1]
      simp only [w1, w2]
      have c4 : ¬ (a < 0) := by omega
      have c5 : ¬ (a > b) := by omega
      rw [decide_eq_false c1, decide_eq_false c2, decide_eq_false c4, decide_eq_false c5]
      simp only [Bool.or_self, Bool.false_eq_true, if_false]
      have hask : (askRoom (b.toNat * j'.bytes)).run P w = .ok () w := by
        unfold askRoom
        split <;> rfl
      rw [run_then hask, run_sizeOf hj1, hj2, ← hsz]
      by_cases h0 : b.toNat * szOf E e = 0
      · simp only [if_pos h0]
        rfl
      · simp only [if_neg h0]
        rw [run_zeroValue hj1 hz1]
        rfl
    · cases h
  · cases h
end
end Go.Proofs.Ytnibdgjlbhdmfaa.Ev
