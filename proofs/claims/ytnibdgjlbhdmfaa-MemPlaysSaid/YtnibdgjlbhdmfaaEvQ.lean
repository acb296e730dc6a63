/- append: what the evaluator makes of it, and that the machine does the same. -/
import Derived.Test.YtnibdgjlbhdmfaaEvP
namespace Go.Proofs.Ytnibdgjlbhdmfaa.Ev
open Go
set_option linter.unusedVariables false
set_option linter.unusedSimpArgs false
section
variable {Ty : Nat → Type} (E : Tb Ty)
def castL (t2 t : Nat) (ys : List (Ty t2)) : Option (List (Ty t)) := if h : t2 = t then some (h ▸ ys) else none
/-- What is appended: its elements; what is handed over. -/
def srcA (m : Bool) (t : Nat) (hp : Heap Ty) : AV Ty → Option (List (Ty t) × Heap Ty × List (Nat × Nat))
  | .v (.slice _ 0 _) => some ([], hp, [])
  | .sl false t2 ys => match castL t2 t ys, !m || E.flat t with
    | some ys', true => some (ys', hp, [])
    | _, _ => none
  | .ref r p vw _ => match root hp r with
    | some R => match nav E R.m R.t R.xs p with
      | some row => match castL row.t t (view row.xs vw) with
        | some ys => match E.flat t || (!m && !R.m) with
          | true => some (ys, hp, [])
          | false => match p, vw, m && R.m with
            | [], none, true => some (ys, hp.set r none, [(r, 0)])
            | _, _, _ => none
        | none => none
      | none => none
    | none => none
  | _ => none
def appT (m : Bool) (hp : Heap Ty) (e : Nat) (ei : TI) (x y : AV Ty) : T (EffR Ty) := match x with
  | .v (.slice none 0 0) => match srcA E m e hp y with
    | some (ys, hp1, ks) => .ite (ys.length + 1 ≤ 549755813888 ∧ (ys.length + 1) * ei.bytes ≤ 549755813888) inferInstance (.ret (.ref hp1.length [] none false, hp1 ++ [some ⟨e, m, ys⟩], ks)) .fail
    | none => .fail
  | .ref r [] vw _ => match root hp r with
    | some R => match Nat.beq (szOf E R.t) ei.sz, srcA E R.m R.t hp y with
      | true, some (ys, hp1, ks) => match root hp1 r with
        | some _ => .ite (vlen R.xs vw + ys.length + 1 ≤ 549755813888 ∧ (vlen R.xs vw + ys.length + 1) * ei.bytes ≤ 549755813888) inferInstance
            (.ret (.ref r [] none false, hp1.set r (some ⟨R.t, R.m, view R.xs vw ++ ys⟩), (r, 0) :: ks)) .fail
        | none => .fail
      | _, _ => .fail
    | none => .fail
  | _ => .fail
variable {E}
variable {X : Set2} {W0 : World} {F F' : Set2} {w w' : World} {hp hp' : Heap Ty} {vals vals' : Nat → Value} {sets sets' : Nat → Set2} {P : Program} {ρ : Operand → Value}
def rowVals (g : Nat → Nat → Value) (n z : Nat) : List Value := (List.range (n * z)).map fun k => g (k / z) (k % z)
theorem rowVals_len (g : Nat → Nat → Value) (n z : Nat) : (rowVals g n z).length = n * z := by simp [rowVals]
theorem rowVals_get {g : Nat → Nat → Value} {n z i o : Nat} (hi : i < n) (ho : o < z) : (rowVals g n z)[i * z + o]? = some (g i o) := by
  have hlt := lt_cells hi (Nat.le_refl n) ho
  unfold rowVals
  rw [List.getElem?_map, List.getElem?_range hlt]
  simp only [Option.map_some]
  have h1 : (i * z + o) / z = i := by rw [Nat.mul_comm, Nat.mul_add_div (by omega), Nat.div_eq_of_lt ho, Nat.add_zero]
  have h2 : (i * z + o) % z = o := by rw [Nat.mul_comm, Nat.mul_add_mod, Nat.mod_eq_of_lt ho]
  rw [h1, h2]
theorem div_lt {n z k : Nat} (h : k < n * z) : k / z < n ∧ k % z < z ∧ k = k / z * z + k % z := by
  have hz : 0 < z := by rcases Nat.eq_zero_or_pos z with h' | h'; · subst h'; simp at h
                        · exact h'
  refine ⟨(Nat.div_lt_iff_lt_mul hz).2 h, Nat.mod_lt _ hz, ?_⟩
  rw [Nat.mul_comm]; exact (Nat.div_add_mod k z).symm
/-- All cells of a row, loaded. -/
theorem rowLoad (G : Good E) {m : Bool} {t : Nat} {xs : List (Ty t)} {b off : Nat} {g : Nat → Nat → Value}
    (hc : ∀ (i : Nat) x (o : Nat) a, xs[i]? = some x → ((E.cod t).enc m x)[o]? = some a → w.cell? ⟨b, off + (i * szOf E t + o), none⟩ = some (g i o)) (d : Nat) :
    (loadCells ⟨b, off, none⟩ (xs.length * szOf E t)).run P { w with drawn := d } = .ok (rowVals g xs.length (szOf E t)).toArray { w with drawn := d } := by
  have := loadCells_ok (P := P) (w := { w with drawn := d }) (b := b) (base := off) (vs := rowVals g xs.length (szOf E t)) (xs.length * szOf E t) 0 #[] (fun k hk => by
    obtain ⟨h1, h2, h3⟩ := div_lt hk
    refine ⟨g (k / szOf E t) (k % szOf E t), ?_, ?_⟩
    · conv => lhs; rw [h3]
      exact rowVals_get h1 h2
    · have hx : xs[k / szOf E t]? = some xs[k / szOf E t] := List.getElem?_eq_getElem h1
      have ho : k % szOf E t < ((E.cod t).enc m xs[k / szOf E t]).length := by rw [G.len]; exact h2
      have := hc _ _ _ _ hx (List.getElem?_eq_getElem ho)
      rw [← h3] at this
      rw [Nat.zero_add]
      exact this) (rowVals_len _ _ _)
  unfold loadCells
  rw [this]
  simp
theorem oneC_of {F : Set2} {w : World} {m : Bool} {t : Nat} (G : Good E) {x : Ty t} {o : Nat} {a : AV Ty} {v : Value} (h : ((E.cod t).enc m x)[o]? = some a) (hr : ¬ isOwn a → Rep E F w v a) (ho : ∀ t' ys, a = .sl true t' ys → ∃ B, Own E F w m v t' ys B) : oneC v = true := by
  rcases G.cell t m x a (List.mem_of_getElem? h) with ⟨y, rfl, hy⟩ | ⟨q, t', ys, rfl, _⟩
  · have := hr (fun h => h)
    cases this
    exact hy
  · cases q with
    | false =>
      have := hr (fun h => h)
      obtain ⟨A, c, e⟩ := this.slen
      rw [e]; rfl
    | true =>
      obtain ⟨B, hB⟩ := ho t' ys rfl
      obtain ⟨A, c, e⟩ := hB.head
      rw [e]; rfl
/-- What an owned row holds, as a list of cells. -/
theorem OwnR.cont (G : Good E) {m : Bool} {b off c t : Nat} {xs : List (Ty t)} {g : Nat → Nat → Value} {B : Nat → Nat → Set2} {S : Set2} (R : OwnR E F w m b off c t xs g B S) : Cont E F w m t xs (rowVals g xs.length (szOf E t)) B := by
  refine ⟨rowVals_len _ _ _, fun v hv => ?_, fun i x o a v e1 e2 e3 e4 => ?_, fun i x o t' ys v e1 e2 e3 => ?_, R.dj, R.rg⟩
  · unfold rowVals at hv
    obtain ⟨k, hk, rfl⟩ := List.mem_map.1 hv
    obtain ⟨h1, h2, h3⟩ := div_lt (List.mem_range.1 hk)
    have hx : xs[k / szOf E t]? = some xs[k / szOf E t] := List.getElem?_eq_getElem h1
    have ho : k % szOf E t < ((E.cod t).enc m xs[k / szOf E t]).length := by rw [G.len]; exact h2
    have ha := List.getElem?_eq_getElem ho
    exact oneC_of G ha (R.rep _ _ _ _ hx ha) (fun t' ys e => ⟨_, R.own _ _ _ t' ys hx (by rw [ha, e])⟩)
  · have ho : o < szOf E t := by have := get_lt e2; rw [G.len] at this; exact this
    rw [rowVals_get (get_lt e1) ho] at e3
    cases e3
    exact R.rep _ _ _ _ e1 e2 e4
  · have ho : o < szOf E t := by have := get_lt e2; rw [G.len] at this; exact this
    rw [rowVals_get (get_lt e1) ho] at e3
    cases e3
    exact R.own _ _ _ _ _ e1 e2
theorem firstCells_some {z n : Nat} {a : Addr} {k c : Nat} : Builtin.firstCells z n (.slice (some a) k c) = loadCells a (n * z) := rfl
/-- The elements of an owned row: its cells, loaded. -/
theorem Own.cont (G : Good E) {m : Bool} {v : Value} {t : Nat} {xs : List (Ty t)} {S : Set2} (h : Own E F w m v t xs S) : ∃ vs B A c, v = .slice A xs.length c ∧ Cont E F w m t xs vs B ∧ (∀ d, (Builtin.firstCells (szOf E t) xs.length v).run P { w with drawn := d } = .ok vs.toArray { w with drawn := d }) ∧
    (∀ i o b j, B i o b j → S b j) := by
  rcases h.inv with ⟨⟨A, rfl⟩, rfl, hS⟩ | ⟨b, off, c, g, B, rfl, O⟩
  · refine ⟨[], _, A, 0, rfl, Cont.nil m t, fun d => ?_, fun i o b j h => h.elim⟩
    cases A with
    | none => rfl
    | some a => show (loadCells a (0 * szOf E t)).run P _ = _; rw [Nat.zero_mul]; rfl
  · exact ⟨_, B, _, c, rfl, O.cont G, fun d => rowLoad G O.cell d, fun i o b j h => O.sub h⟩
theorem castL_eq {t2 t : Nat} {ys : List (Ty t2)} {ys' : List (Ty t)} (h : castL t2 t ys = some ys') : ∃ e : t2 = t, ys' = e ▸ ys := by
  unfold castL at h
  split at h
  · rename_i e; exact ⟨e, (Option.some.inj h).symm⟩
  · cases h
/-- Contents that hold no rows may stand in any root. -/
theorem Cont.flat (G : Good E) {m m' : Bool} {t : Nat} {zs : List (Ty t)} {vs : List Value} {B : Nat → Nat → Set2} (h : Cont E F w m t zs vs B) (hf : E.flat t = true) : Cont E F w m' t zs vs (fun _ _ _ _ => False) := by
  have he : ∀ x, (E.cod t).enc m' x = (E.cod t).enc m x := by
    intro x
    have := (G.flat t hf x).1
    cases m <;> cases m' <;> first | rfl | exact this | exact this.symm
  refine ⟨h.len, h.one, fun i x o a v e1 e2 e3 e4 => h.rep i x o a v e1 (by rw [← he]; exact e2) e3 e4, fun i x o t' ys v e1 e2 e3 => ?_, fun _ _ _ _ _ _ h => h.elim, fun _ _ _ _ h => h.elim⟩
  obtain ⟨y, hy⟩ := (G.flat t hf x).2 m' _ (List.mem_of_getElem? e2)
  cases hy
theorem Cont.shallow (G : Good E) {t : Nat} {zs : List (Ty t)} {vs : List Value} {B : Nat → Nat → Set2} (h : Cont E F w false t zs vs B) : Cont E F w false t zs vs (fun _ _ _ _ => False) := by
  refine ⟨h.len, h.one, h.rep, fun i x o t' ys v e1 e2 e3 => ?_, fun _ _ _ _ _ _ h => h.elim, fun _ _ _ _ h => h.elim⟩
  exact (G.frozen e2).elim
theorem src_ok (G : Good E) (H : HRel E F w hp vals sets) {m : Bool} {t : Nat} {v : Value} {y : AV Ty} (hy : VRep E F w hp vals v y) {ys : List (Ty t)} {hp1 : Heap Ty} {ks : List (Nat × Nat)} (h : srcA E m t hp y = some (ys, hp1, ks)) :
    ∃ vs B A c, v = .slice A ys.length c ∧ Less F F sets hp hp1 ks ∧ HRel E F w hp1 vals sets ∧ Cont E F w m t ys vs B ∧ (∀ d, (Builtin.firstCells (szOf E t) ys.length v).run P { w with drawn := d } = .ok vs.toArray { w with drawn := d }) ∧
      (∀ i o b j, B i o b j → ∃ r R, root hp r = some R ∧ root hp1 r = none ∧ sets r b j) := by
  unfold srcA at h
  split at h
  · cases h
    have e := hy.v
    subst e
    rename_i A c
    refine ⟨[], _, A, c, rfl, .refl _ _ _, H, Cont.nil m t, fun d => ?_, fun i o b j h => h.elim⟩
    cases A with
    | none => rfl
    | some a => show (loadCells a (0 * szOf E t)).run P _ = _; rw [Nat.zero_mul]; rfl
  · rename_i t2 ys2
    split at h
    · rename_i ys' hc hm
      cases h
      obtain ⟨e, rfl⟩ := castL_eq hc
      subst e
      have hr := hy.sl
      have base : ∃ vs A c, v = .slice A ys2.length c ∧ Cont E F w false t2 ys2 vs (fun _ _ _ _ => False) ∧ ∀ d, (Builtin.firstCells (szOf E t2) ys2.length v).run P { w with drawn := d } = .ok vs.toArray { w with drawn := d } := by
        cases hr with
        | nil A c t =>
          refine ⟨[], A, c, rfl, Cont.nil _ _, fun d => ?_⟩
          cases A with
          | none => rfl
          | some a => show (loadCells a (0 * szOf E t2)).run P _ = _; rw [Nat.zero_mul]; rfl
        | sl b off c _ _ g h1 h2 h3 =>
          refine ⟨rowVals g ys2.length (szOf E t2), _, c, rfl, ⟨rowVals_len _ _ _, fun v hv => ?_, fun i x o a v e1 e2 e3 e4 => ?_, fun i x o t' zs v e1 e2 e3 => ?_, fun _ _ _ _ _ _ h => h.elim, fun _ _ _ _ h => h.elim⟩, fun d => rowLoad G (fun i x o a e1 e2 => (h2 i x o a e1 e2).1) d⟩
          · unfold rowVals at hv
            obtain ⟨k, hk, rfl⟩ := List.mem_map.1 hv
            obtain ⟨k1, k2, k3⟩ := div_lt (List.mem_range.1 hk)
            have hx : ys2[k / szOf E t2]? = some ys2[k / szOf E t2] := List.getElem?_eq_getElem k1
            have ho : k % szOf E t2 < ((E.cod t2).enc false ys2[k / szOf E t2]).length := by rw [G.len]; exact k2
            have ha := List.getElem?_eq_getElem ho
            refine oneC_of (m := false) G ha (fun _ => h3 _ _ _ _ hx ha) (fun t' zs e => ?_)
            rw [e] at ha
            exact (G.frozen ha).elim
          · have ho : o < szOf E t2 := by have := get_lt e2; rw [G.len] at this; exact this
            rw [rowVals_get (get_lt e1) ho] at e3
            cases e3
            exact h3 _ _ _ _ e1 e2
          · exact (G.frozen e2).elim
      obtain ⟨vs, A, c, b1, b2, b3⟩ := base
      refine ⟨vs, fun _ _ _ _ => False, A, c, b1, .refl _ _ _, H, ?_, b3, fun i o b j h => h.elim⟩
      cases m with
      | false => exact b2
      | true => exact b2.flat G (by simpa using hm)
    · cases h
  · rename_i r p vw full
    obtain ⟨R, u, row, k1, k2, k3⟩ := hy.ref'
    rw [k1] at h
    simp only at h
    rw [k2.nav] at h
    simp only at h
    split at h
    · rename_i ys' hc
      obtain ⟨S, hO⟩ := H.at G k1 k2
      obtain ⟨S', hV, hsub⟩ := hO.view G k3
      split at h
      · rename_i hfl
        cases h
        obtain ⟨e, rfl⟩ := castL_eq hc
        obtain ⟨rt, rxs⟩ := row
        simp only at e
        subst e
        obtain ⟨vs, B, A, c, q1, q2, q3, q4⟩ := hV.cont (P := P) G
        refine ⟨vs, fun _ _ _ _ => False, A, c, q1, .refl _ _ _, H, ?_, q3, fun i o b j h => h.elim⟩
        rw [Bool.or_eq_true] at hfl
        rcases hfl with hfl | hfl
        · exact q2.flat G hfl
        · have hm : m = false ∧ R.m = false := by simpa using hfl
          rw [hm.2] at q2
          rw [hm.1]
          exact q2.shallow G
      · split at h
        · rename_i hfl hm
          cases h
          obtain ⟨e, rfl⟩ := castL_eq hc
          obtain ⟨rfl, rfl⟩ := k2
          simp only at e
          obtain ⟨k3, _⟩ := k3
          subst e
          have hmm : m = true ∧ R.m = true := by simpa using hm
          have hlt := root_lt k1
          have hroot : ∀ r', root (hp.set r none) r' = if r = r' then none else root hp r' := by
            intro r'
            rw [root_set]
            split
            · simp
            · rfl
          have hOr := H.own r R k1
          obtain ⟨vs, B, A, c, q1, q2, q3, q4⟩ := hOr.cont (P := P) G
          refine ⟨vs, B, A, c, by rw [k3]; exact q1, ⟨fun r' R' e => ?_, fun r' R' e => ?_, fun _ _ h => h, fun _ _ h => .inl h, List.length_set⟩, ⟨fun r' R' e => ?_, fun r1 r2 R1 R2 e1 e2 => ?_⟩, by rw [hmm.1, ← hmm.2]; exact q2, by rw [k3]; exact q3, fun i o b j h => ⟨r, R, k1, by rw [hroot, if_pos rfl], q4 _ _ _ _ h⟩⟩
          · rw [hroot] at e; split at e <;> simp_all
          · rw [hroot]
            by_cases e' : r = r'
            · subst e'; exact .inr ⟨if_pos rfl, by simp⟩
            · rw [if_neg e']; exact .inl e
          · rw [hroot] at e; split at e
            · cases e
            · exact H.own _ _ e
          · rw [hroot] at e1 e2
            split at e1
            · cases e1
            · split at e2
              · cases e2
              · exact H.dj _ _ _ _ e1 e2
        · cases h
    · cases h
  · cases h
/-- An owned row, more behind it in its own room. -/
theorem OwnR.extend (G : Good E) {m : Bool} {b off c t : Nat} {xs ys : List (Ty t)} {g : Nat → Nat → Value} {B B' : Nat → Nat → Set2} {S : Set2} (R : OwnR E F w m b off c t xs g B S) {vs : List Value} (hC : Cont E F w m t ys vs B') (hn : xs.length + ys.length ≤ c)
    (hW : Wrote w w' b (off + xs.length * szOf E t) vs) (hS : ∀ i o b' j, B' i o b' j → ¬ S b' j) :
    ∃ S', Own E F w' m (.slice (some ⟨b, off, none⟩) (xs.length + ys.length) c) t (xs ++ ys) S' ∧ ∀ b' j, S' b' j → S b' j ∨ ∃ i o, B' i o b' j := by
  have hroom : ∀ j, off + xs.length * szOf E t ≤ j → j < off + xs.length * szOf E t + vs.length → j - off < c * szOf E t := by
    intro j h1 h2
    rw [hC.len] at h2
    have : (xs.length + ys.length) * szOf E t ≤ c * szOf E t := Nat.mul_le_mul_right _ hn
    rw [Nat.add_mul] at this
    omega
  have hW1 : ∀ b' j, ¬ (b' = b ∧ off ≤ j ∧ j < off + c * szOf E t) → w'.cell? ⟨b', j, none⟩ = w.cell? ⟨b', j, none⟩ := by
    intro b' j h
    refine hW.out _ _ (fun ⟨e1, e2, e3⟩ => h ⟨e1, by omega, ?_⟩)
    have := hroom j e2 e3
    omega
  have hF1 : ∀ b' j, F b' j → w'.cell? ⟨b', j, none⟩ = w.cell? ⟨b', j, none⟩ := by
    intro b' j h
    refine hW1 _ _ (fun ⟨e1, e2, e3⟩ => ?_)
    subst e1
    have := (R.cap (j - off) (by omega)).2.2
    rw [show off + (j - off) = j by omega] at this
    exact this h
  have split : ∀ (i : Nat) x (o : Nat) a, (xs ++ ys)[i]? = some x → ((E.cod t).enc m x)[o]? = some a → (i < xs.length ∧ xs[i]? = some x) ∨ (¬ i < xs.length ∧ ys[i - xs.length]? = some x) := by
    intro i x o a e1 e2
    by_cases hi : i < xs.length
    · exact .inl ⟨hi, by rw [List.getElem?_append_left hi] at e1; exact e1⟩
    · exact .inr ⟨hi, by rw [List.getElem?_append_right (by omega)] at e1; exact e1⟩
  have val : ∀ (i o : Nat) x a, ys[i]? = some x → ((E.cod t).enc m x)[o]? = some a → ∃ v, vs[i * szOf E t + o]? = some v := by
    intro i o x a e1 e2
    exact ⟨_, List.getElem?_eq_getElem (by rw [hC.len]; exact G.lt (Nat.le_refl _) e1 e2)⟩
  refine ⟨fun b' j' => (b' = b ∧ off ≤ j' ∧ j' < off + c * szOf E t) ∨ ∃ i o, (if i < xs.length then B i o b' j' else B' (i - xs.length) o b' j'), ?_, ?_⟩
  · rw [show xs.length + ys.length = (xs ++ ys).length by simp]
    refine OwnR.toOwn (g := fun i o => if i < xs.length then g i o else vs.getD ((i - xs.length) * szOf E t + o) undef) (B := fun i o => if i < xs.length then B i o else B' (i - xs.length) o)
      (S := fun b' j' => (b' = b ∧ off ≤ j' ∧ j' < off + c * szOf E t) ∨ ∃ i o, (if i < xs.length then B i o b' j' else B' (i - xs.length) o b' j')) ⟨by simp; exact hn, fun j hj => ?_, fun i x o a e1 e2 => ?_, fun i x o a e1 e2 e3 => ?_, fun i x o t' zs e1 e2 => ?_, fun i o i' o' b' j' e1 e2 => ?_, fun i o j hj e => ?_, fun i o b' j' e => ?_, fun b' j' => ?_⟩
    · obtain ⟨⟨v, hv⟩, h2, h3⟩ := R.cap j hj
      refine ⟨?_, (hW.fro _ _).trans h2, h3⟩
      by_cases e : off + xs.length * szOf E t ≤ off + j ∧ off + j < off + xs.length * szOf E t + vs.length
      · have := hW.inn (j - xs.length * szOf E t) _ (List.getElem?_eq_getElem (by omega))
        rw [show off + xs.length * szOf E t + (j - xs.length * szOf E t) = off + j by omega] at this
        exact ⟨_, this⟩
      · exact ⟨v, (hW.out _ _ (fun h => e ⟨h.2.1, h.2.2⟩)).trans hv⟩
    · rcases split i x o a e1 e2 with ⟨hi, k1⟩ | ⟨hi, k1⟩
      · rw [if_pos hi]
        have := R.cell _ _ _ _ k1 e2
        rw [hW.out]
        · exact this
        · rintro ⟨_, h1, h2⟩
          have ho : o < szOf E t := by have := get_lt e2; rw [G.len] at this; exact this
          have := lt_cells hi (Nat.le_refl _) ho
          omega
      · rw [if_neg hi]
        obtain ⟨v, hv⟩ := val _ _ _ _ k1 e2
        rw [getD_of hv]
        have := hW.inn _ _ hv
        have hge : xs.length * szOf E t ≤ i * szOf E t := Nat.mul_le_mul_right _ (by omega)
        rw [Nat.sub_mul, show off + xs.length * szOf E t + (i * szOf E t - xs.length * szOf E t + o) = off + (i * szOf E t + o) by omega] at this
        exact this
    · rcases split i x o a e1 e2 with ⟨hi, k1⟩ | ⟨hi, k1⟩
      · rw [if_pos hi]; exact (R.rep _ _ _ _ k1 e2 e3).stable fun b' j h => ⟨h, hF1 _ _ h⟩
      · rw [if_neg hi]
        obtain ⟨v, hv⟩ := val _ _ _ _ k1 e2
        rw [getD_of hv]
        exact (hC.rep _ _ _ _ _ k1 e2 hv e3).stable fun b' j h => ⟨h, hF1 _ _ h⟩
    · rcases split i x o _ e1 e2 with ⟨hi, k1⟩ | ⟨hi, k1⟩
      · rw [if_pos hi, if_pos hi]
        refine (R.own _ _ _ _ _ k1 e2).stable G (fun b' j h => ⟨h, hF1 _ _ h⟩) (fun b' j h => ⟨hW1 _ _ (fun ⟨e1, e2, e3⟩ => ?_), hW.fro _ _⟩) (fun b' j _ h => h)
        subst e1
        have := R.dr i o (j - off) (by omega)
        rw [show off + (j - off) = j by omega] at this
        exact this h
      · rw [if_neg hi, if_neg hi]
        obtain ⟨v, hv⟩ := val _ _ _ _ k1 e2
        rw [getD_of hv]
        refine (hC.own _ _ _ _ _ _ k1 e2 hv).stable G (fun b' j h => ⟨h, hF1 _ _ h⟩) (fun b' j h => ⟨hW1 _ _ (fun e => hS _ _ _ _ h ((R.iff _ _).2 (.inl e))), hW.fro _ _⟩) (fun b' j _ h => h)
    · split at e1 <;> split at e2
      · exact R.dj _ _ _ _ _ _ e1 e2
      · exact absurd (R.sub e1) (hS _ _ _ _ e2)
      · exact absurd (R.sub e2) (hS _ _ _ _ e1)
      · have := hC.dj _ _ _ _ _ _ e1 e2; omega
    · split at e
      · exact R.dr _ _ _ hj e
      · exact hS _ _ _ _ e (R.mem hj)
    · split at e
      · rename_i hi
        obtain ⟨x, t', zs, k1, k2⟩ := R.rg _ _ _ _ e
        exact ⟨x, t', zs, by rw [List.getElem?_append_left hi]; exact k1, k2⟩
      · rename_i hi
        obtain ⟨x, t', zs, k1, k2⟩ := hC.rg _ _ _ _ e
        exact ⟨x, t', zs, by rw [List.getElem?_append_right (by omega)]; exact k1, k2⟩
    · constructor
      · rintro (h | ⟨i, o, h⟩)
        · exact .inl h
        · refine .inr ⟨i, o, ?_⟩
          split <;> rename_i e
          · rw [if_pos e] at h; exact h
          · rw [if_neg e] at h; exact h
      · rintro (h | ⟨i, o, h⟩)
        · exact .inl h
        · refine .inr ⟨i, o, ?_⟩
          split at h <;> rename_i e
          · rw [if_pos e]; exact h
          · rw [if_neg e]; exact h
  · intro b' j' h
    rcases h with h | ⟨i, o, h⟩
    · exact .inl ((R.iff _ _).2 (.inl h))
    · split at h
      · exact .inl (R.sub h)
      · exact .inr ⟨_, _, h⟩
theorem Inv.drew (I : Inv E X W0 F w hp vals sets) (G : Good E) (d : Nat) : Inv E X W0 F { w with drawn := d } hp vals sets :=
  ⟨⟨fun r R h => (I.H.own r R h).stable (w := w) (w' := { w with drawn := d }) G (fun b j h => ⟨h, rfl⟩) (fun b j h => ⟨rfl, rfl⟩) (fun b j _ h => h), I.H.dj⟩, I.fb, I.lim, ⟨I.keep.os, I.keep.tape, I.keep.output, I.keep.size, I.keep.block, I.keep.cell⟩⟩
theorem VRep.drew {v : Value} {a : AV Ty} (d : Nat) (h : VRep E F w hp vals v a) : VRep E F { w with drawn := d } hp vals v a := by
  have hl : ∀ (m : Bool) (p : Path) (v : Value) (t : Nat) (xs : List (Ty t)) (u : Value) (row : Row Ty), Loc E w m v t xs p u row → Loc E { w with drawn := d } m v t xs p u row := by
    intro m p
    induction p with
    | nil => intro v t xs u row h; exact h
    | cons s p ih => intro v t xs u row ⟨b, off, c, x, t', ys, v', h1, h2, h3, h4, h5⟩; exact ⟨b, off, c, x, t', ys, v', h1, h2, h3, h4, ih _ _ _ _ _ h5⟩
  induction h with
  | rep v a h => exact .rep _ _ (h.stable (w := w) (w' := { w with drawn := d }) fun b j h => ⟨h, rfl⟩)
  | ref r p vw full v R u row h1 h2 h3 => exact .ref r p vw full v R u row h1 (hl _ _ _ _ _ _ _ h2) h3
  | ptr r p i o R b off c row h1 h2 h3 => exact .ptr r p i o R b off c row h1 (hl _ _ _ _ _ _ _ h2) h3
  | agg vs cs h1 h2 ih => exact .agg vs cs h1 ih
  | tup vs cs h1 h2 ih => exact .tup vs cs h1 ih
  | dead v => exact .dead v
  | ext v r p t xs => exact .ext v r p t xs
/-- A root put in a root's place, in a new block. -/
theorem setNew_ok (G : Good E) (I : Inv E X W0 F w hp vals sets) {hp1 : Heap Ty} {ks : List (Nat × Nat)} (L : Less F F sets hp hp1 ks) (H1 : HRel E F w hp1 vals sets) {r : Nat} {R R' : Root Ty} (hr : root hp1 r = some R) {o : Obj} {v : Value} {S : Set2}
    (hO : Own E F (w.alloc o) R'.m v R'.t R'.xs S) (hS : ∀ b j, S b j → b = w.heap.size ∨ sets r b j ∨ ∃ r' R'', root hp r' = some R'' ∧ root hp1 r' = none ∧ sets r' b j) :
    Inv E X W0 F (w.alloc o) (hp1.set r (some R')) (fun i => if i = r then v else vals i) (fun i => if i = r then S else sets i) := by
  have hlt := root_lt hr
  have hroot : ∀ i, root (hp1.set r (some R')) i = if r = i then some R' else root hp1 i := by
    intro i
    rw [root_set, if_pos hlt]
  have slt : ∀ i Ri b j, root hp1 i = some Ri → sets i b j → b < w.heap.size := fun i Ri b j h1 h2 => I.lt (L.sub _ _ h1) h2
  have sep : ∀ i Ri, i ≠ r → root hp1 i = some Ri → ∀ b j, S b j → sets i b j → False := by
    intro i Ri hne hi b j h1 h2
    rcases hS b j h1 with h | h | ⟨r', R'', q1, q2, q3⟩
    · have := slt _ _ _ _ hi h2; omega
    · exact hne (H1.dj _ _ _ _ hi hr b j h2 h)
    · have := I.H.dj _ _ _ _ q1 (L.sub _ _ hi) b j q3 h2
      subst this
      rw [q2] at hi; cases hi
  refine ⟨⟨fun i Ri h => ?_, fun i i' Ri Ri' h1 h2 b j s1 s2 => ?_⟩, fun b j h => by rw [World.size_alloc]; have := I.fb _ _ h; omega, fun i Ri b j h s => ?_, I.keep.alloc o⟩
  · rw [hroot] at h
    by_cases e : i = r
    · subst e
      rw [if_pos rfl] at h
      cases h
      simpa using hO
    · rw [if_neg (fun h => e h.symm)] at h
      simp only [if_neg e]
      exact (H1.own i Ri h).stable G (fun b j h => ⟨h, cell_alloc_old (I.fb _ _ h)⟩) (fun b' j s => ⟨cell_alloc_old (slt _ _ _ _ h s), frozen_alloc_old (slt _ _ _ _ h s)⟩) (fun b j _ h => h)
  · rw [hroot] at h1 h2
    by_cases e1 : i = r <;> by_cases e2 : i' = r
    · rw [e1, e2]
    · simp only [if_pos e1] at s1; simp only [if_neg e2] at s2; rw [if_neg (fun h => e2 h.symm)] at h2; exact (sep _ _ e2 h2 _ _ s1 s2).elim
    · simp only [if_neg e1] at s1; simp only [if_pos e2] at s2; rw [if_neg (fun h => e1 h.symm)] at h1; exact (sep _ _ e1 h1 _ _ s2 s1).elim
    · simp only [if_neg e1] at s1; simp only [if_neg e2] at s2; rw [if_neg (fun h => e1 h.symm)] at h1; rw [if_neg (fun h => e2 h.symm)] at h2; exact H1.dj _ _ _ _ h1 h2 b j s1 s2
  · rw [hroot] at h
    by_cases e : i = r
    · simp only [if_pos e] at s
      rcases hS b j s with h' | h' | ⟨r', R'', q1, q2, q3⟩
      · right; have := I.keep.size; omega
      · exact I.lim r R b j (L.sub _ _ hr) h'
      · exact I.lim _ _ _ _ q1 q3
    · simp only [if_neg e] at s
      rw [if_neg (fun h => e h.symm)] at h
      exact I.lim _ _ _ _ (L.sub _ _ h) s
end
end Go.Proofs.Ytnibdgjlbhdmfaa.Ev
