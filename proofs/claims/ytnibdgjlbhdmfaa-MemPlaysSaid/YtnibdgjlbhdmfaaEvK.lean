/- Memory written: what a row of stores leaves; an element of an owned row set anew. -/
import Derived.Test.YtnibdgjlbhdmfaaEvJ
namespace Go.Proofs.Ytnibdgjlbhdmfaa.Ev
open Go
set_option linter.unusedVariables false
set_option linter.unusedSimpArgs false
/-- The cells from base on in block b hold vs; nothing else is another. -/
structure Wrote (w w' : World) (b base : Nat) (vs : List Value) : Prop where
  inn : ∀ k v, vs[k]? = some v → w'.cell? ⟨b, base + k, none⟩ = some v
  out : ∀ b' j, ¬ (b' = b ∧ base ≤ j ∧ j < base + vs.length) → w'.cell? ⟨b', j, none⟩ = w.cell? ⟨b', j, none⟩
  fro : ∀ b' j, w'.frozen? ⟨b', j, none⟩ = w.frozen? ⟨b', j, none⟩
  size : w'.heap.size = w.heap.size
  block : ∀ k, (k ≠ b ∨ vs = []) → w'.heap[k]? = w.heap[k]?
  os : w'.os = w.os
  tape : w'.tape = w.tape
  output : w'.output = w.output
theorem frozen_setCell (w : World) (a : Addr) (v : Value) (b j : Nat) : (w.setCell a v).frozen? ⟨b, j, none⟩ = w.frozen? ⟨b, j, none⟩ := by
  simp only [World.setCell, World.frozen?, Array.getElem?_modify]
  by_cases h : a.block = b
  · subst h
    simp only [if_true]
    cases hh : w.heap[a.block]? with
    | none => rfl
    | some x => cases x <;> rfl
  · simp [h]
theorem wrote_one {w : World} {b j : Nat} {u v : Value} (h : w.cell? ⟨b, j, none⟩ = some u) : Wrote w (w.setCell ⟨b, j, none⟩ v) b j [v] where
  inn := by
    intro k v' e
    cases k with
    | zero => cases e; exact World.cell?_setCell_same _ _ _ h
    | succ k => simp at e
  out := by
    intro b' j' h'
    refine World.cell?_setCell_other _ _ _ _ (fun e => h' ?_)
    injection e with e1 e2
    subst e1 e2
    exact ⟨rfl, Nat.le_refl _, by simp⟩
  fro := fun b' j' => frozen_setCell _ _ _ _ _
  size := by simp
  block := fun k hk => Go.RowKit.Below.heap_setCell _ _ _ _ (fun e => hk.elim (fun h => h e) (fun h => by cases h))
  os := rfl
  tape := rfl
  output := rfl
theorem Wrote.cons {w w1 w2 : World} {b base : Nat} {v : Value} {vs : List Value} (h1 : Wrote w w1 b base [v]) (h2 : Wrote w1 w2 b (base + 1) vs) : Wrote w w2 b base (v :: vs) where
  inn := by
    intro k v' e
    cases k with
    | zero =>
      cases e
      rw [h2.out _ _ (by omega)]
      exact h1.inn 0 _ rfl
    | succ k =>
      have := h2.inn k v' (by simpa using e)
      rw [show base + (k + 1) = base + 1 + k by omega]
      exact this
  out := by
    intro b' j h
    simp only [List.length_cons] at h
    rw [h2.out _ _ (by omega), h1.out _ _ (by simp; omega)]
  fro := fun b' j => (h2.fro b' j).trans (h1.fro b' j)
  size := h2.size.trans h1.size
  block := fun k hk => by
    rcases hk with hk | hk
    · exact (h2.block k (.inl hk)).trans (h1.block k (.inl hk))
    · cases hk
  os := h2.os.trans h1.os
  tape := h2.tape.trans h1.tape
  output := h2.output.trans h1.output
theorem Wrote.nil (w : World) (b base : Nat) : Wrote w w b base [] := ⟨fun k v e => by simp at e, fun _ _ _ => rfl, fun _ _ => rfl, rfl, fun _ _ => rfl, rfl, rfl, rfl⟩
theorem storeCells_ok {P : Program} {b base : Nat} : ∀ (vs : List Value) (i : Nat) (w : World), (∀ k, k < vs.length → (∃ u, w.cell? ⟨b, base + (i + k), none⟩ = some u) ∧ w.frozen? ⟨b, base + (i + k), none⟩ = false) → (∀ v ∈ vs, oneC v = true) →
    ∃ w', (storeCells ⟨b, base, none⟩ vs i).run P w = .ok () w' ∧ Wrote w w' b (base + i) vs
  | [], i, w, h, h1 => ⟨w, rfl, .nil _ _ _⟩
  | v :: vs, i, w, h, h1 => by
    obtain ⟨⟨u, hu⟩, hf⟩ := h 0 (by simp)
    rw [Nat.add_zero] at hu hf
    have hw := wrote_one (v := v) hu
    obtain ⟨w', k1, k2⟩ := storeCells_ok (P := P) (b := b) (base := base) vs (i + 1) (w.setCell ⟨b, base + i, none⟩ v) (fun k hk => by
      obtain ⟨⟨u', hu'⟩, hf'⟩ := h (k + 1) (by simpa using hk)
      rw [show i + (k + 1) = i + 1 + k by omega] at hu' hf'
      refine ⟨⟨u', ?_⟩, ?_⟩
      · rw [hw.out _ _ (by simp; omega)]; exact hu'
      · rw [hw.fro]; exact hf') (fun v' hv' => h1 v' (by simp [hv']))
    refine ⟨w', ?_, .cons hw (by rw [Nat.add_assoc]; exact k2)⟩
    unfold storeCells
    simp only [store, Bind.bind, Sem.bind, addr_add]
    have hone := h1 v (by simp)
    cases v <;> simp [oneC] at hone <;> simp only [Sem.run, hu, hf] <;> exact k1
section
variable {Ty : Nat → Type} {E : Tb Ty}
variable {F F' : Set2} {w w' : World}
/-- New cells for an element: what each is, and what it owns. -/
structure Fresh (E : Tb Ty) (F : Set2) (w : World) (m : Bool) (vs : List Value) (cs : List (AV Ty)) (Bn : Nat → Set2) : Prop where
  len : vs.length = cs.length
  one : ∀ v ∈ vs, oneC v = true
  rep : ∀ (k : Nat) v a, vs[k]? = some v → cs[k]? = some a → ¬ isOwn a → Rep E F w v a
  own : ∀ (k : Nat) v t' ys, vs[k]? = some v → cs[k]? = some (.sl true t' ys) → Own E F w m v t' ys (Bn k)
  dj : ∀ k k' b j, Bn k b j → Bn k' b j → k = k'
  rg : ∀ k b j, Bn k b j → ∃ t' ys, cs[k]? = some (.sl true t' ys)
theorem Fresh.stable (G : Good E) {m : Bool} {vs : List Value} {cs : List (AV Ty)} {Bn : Nat → Set2} (h : Fresh E F w m vs cs Bn) (hF : ∀ b j, F b j → F' b j ∧ w'.cell? ⟨b, j, none⟩ = w.cell? ⟨b, j, none⟩)
    (hB : ∀ k b j, Bn k b j → w'.cell? ⟨b, j, none⟩ = w.cell? ⟨b, j, none⟩ ∧ w'.frozen? ⟨b, j, none⟩ = w.frozen? ⟨b, j, none⟩ ∧ (F' b j → F b j)) : Fresh E F' w' m vs cs Bn :=
  ⟨h.len, h.one, fun k v a e1 e2 e3 => (h.rep k v a e1 e2 e3).stable hF, fun k v t' ys e1 e2 => (h.own k v t' ys e1 e2).stable G hF (fun b j e => ⟨(hB k b j e).1, (hB k b j e).2.1⟩) (fun b j e => (hB k b j e).2.2), h.dj, h.rg⟩
/-- An owned row, an element's cells set anew. -/
theorem OwnR.put (G : Good E) {m : Bool} {b off c t : Nat} {xs : List (Ty t)} {g : Nat → Nat → Value} {B : Nat → Nat → Set2} {S : Set2} (R : OwnR E F w m b off c t xs g B S) {i o : Nat} {x x' : Ty t} (hx : xs[i]? = some x)
    {vs : List Value} {cs : List (AV Ty)} {Bn : Nat → Set2} (hn : Fresh E F w m vs cs Bn) (hW : Wrote w w' b (off + (i * szOf E t + o)) vs) (hoz : o + cs.length ≤ szOf E t)
    (hx' : (E.cod t).enc m x' = ((E.cod t).enc m x).take o ++ cs ++ ((E.cod t).enc m x).drop (o + cs.length)) (hF : ∀ b j, F b j → b < w.heap.size)
    (hS : ∀ k b' j, Bn k b' j → S b' j → ∃ o2, o ≤ o2 ∧ o2 < o + cs.length ∧ B i o2 b' j) :
    OwnR E F w' m b off c t (xs.set i x') (fun i2 o2 => if i2 = i ∧ o ≤ o2 ∧ o2 < o + cs.length then vs.getD (o2 - o) undef else g i2 o2)
      (fun i2 o2 => if i2 = i ∧ o ≤ o2 ∧ o2 < o + cs.length then Bn (o2 - o) else B i2 o2)
      (fun b' j' => (b' = b ∧ off ≤ j' ∧ j' < off + c * szOf E t) ∨ ∃ i2 o2, (if i2 = i ∧ o ≤ o2 ∧ o2 < o + cs.length then Bn (o2 - o) b' j' else B i2 o2 b' j')) := by
  have hi := get_lt hx
  have hin : ∀ o2, o ≤ o2 → o2 < o + cs.length → i * szOf E t + o2 < c * szOf E t := fun o2 h1 h2 => lt_cells hi R.le (by omega)
  have hrow : ∀ k b' j, Bn k b' j → ¬ (b' = b ∧ off ≤ j ∧ j < off + c * szOf E t) := by
    rintro k b' j h ⟨e0, e1, e2⟩
    subst e0
    obtain ⟨o2, _, _, h2⟩ := hS k _ j h ((R.iff _ _).2 (.inl ⟨rfl, e1, e2⟩))
    have := R.dr i o2 (j - off) (by omega)
    rw [show off + (j - off) = j by omega] at this
    exact this h2
  -- what the stores touch is the row's own
  have hrowF : ∀ b' j, F b' j → w'.cell? ⟨b', j, none⟩ = w.cell? ⟨b', j, none⟩ := by
    intro b' j h
    refine hW.out _ _ (fun ⟨e1, e2, e3⟩ => ?_)
    subst e1
    rw [hn.len] at e3
    have := (R.cap (j - off) (by have := hin (j - off - i * szOf E t) (by omega) (by omega); omega)).2.2
    rw [show off + (j - off) = j by omega] at this
    exact this h
  have hsubW : ∀ b' j, ¬ (b' = b ∧ off ≤ j ∧ j < off + c * szOf E t) → w'.cell? ⟨b', j, none⟩ = w.cell? ⟨b', j, none⟩ := by
    intro b' j h
    refine hW.out _ _ (fun ⟨e1, e2, e3⟩ => h ⟨e1, by omega, ?_⟩)
    rw [hn.len] at e3
    have := hin (j - off - i * szOf E t) (by omega) (by omega)
    omega
  have hget : ∀ (i2 : Nat) x2 (o2 : Nat) a2, (xs.set i x')[i2]? = some x2 → ((E.cod t).enc m x2)[o2]? = some a2 →
      (i2 = i ∧ o ≤ o2 ∧ o2 < o + cs.length ∧ cs[o2 - o]? = some a2) ∨ (¬ (i2 = i ∧ o ≤ o2 ∧ o2 < o + cs.length) ∧ ∃ x3, xs[i2]? = some x3 ∧ ((E.cod t).enc m x3)[o2]? = some a2) := by
    intro i2 x2 o2 a2 q1 q2
    rw [List.getElem?_set] at q1
    by_cases e : i = i2
    · subst e
      rw [if_pos rfl, if_pos hi] at q1
      cases q1
      rw [hx', List.append_assoc] at q2
      have hl := G.len t m x
      by_cases g1 : o2 < o
      · rw [List.getElem?_append_left (by simp; omega), List.getElem?_take, if_pos g1] at q2
        exact .inr ⟨by omega, x, hx, q2⟩
      · rw [List.getElem?_append_right (by simp; omega)] at q2
        have t1 : (((E.cod t).enc m x).take o).length = o := by simp; omega
        rw [t1] at q2
        by_cases g2 : o2 - o < cs.length
        · rw [List.getElem?_append_left g2] at q2
          exact .inl ⟨rfl, by omega, by omega, q2⟩
        · rw [List.getElem?_append_right (by omega), List.getElem?_drop] at q2
          rw [show o + cs.length + (o2 - o - cs.length) = o2 by omega] at q2
          exact .inr ⟨by omega, x, hx, q2⟩
    · rw [if_neg e] at q1
      exact .inr ⟨fun h => e h.1.symm, x2, q1, q2⟩
  refine ⟨by rw [List.length_set]; exact R.le, fun j hj => ?_, fun i2 x2 o2 a2 q1 q2 => ?_, fun i2 x2 o2 a2 q1 q2 q3 => ?_, fun i2 x2 o2 t2 ys q1 q2 => ?_, fun i1 o1 i2 o2 b' j' q1 q2 => ?_, fun i2 o2 j hj q => ?_, fun i2 o2 b' j' q => ?_, fun b' j' => ?_⟩
  · obtain ⟨⟨v, hv⟩, h2, h3⟩ := R.cap j hj
    refine ⟨?_, (hW.fro _ _).trans h2, h3⟩
    by_cases e : off + (i * szOf E t + o) ≤ off + j ∧ off + j < off + (i * szOf E t + o) + vs.length
    · obtain ⟨v', hv'⟩ : ∃ v', vs[j - (i * szOf E t + o)]? = some v' := ⟨_, List.getElem?_eq_getElem (by omega)⟩
      have := hW.inn _ _ hv'
      rw [show off + (i * szOf E t + o) + (j - (i * szOf E t + o)) = off + j by omega] at this
      exact ⟨v', this⟩
    · exact ⟨v, (hW.out _ _ (fun h => e ⟨h.2.1, h.2.2⟩)).trans hv⟩
  · rcases hget i2 x2 o2 a2 q1 q2 with ⟨rfl, h1, h2, h3⟩ | ⟨hne, x3, h1, h2⟩
    · rw [if_pos ⟨rfl, h1, h2⟩]
      obtain ⟨v', hv'⟩ : ∃ v', vs[o2 - o]? = some v' := ⟨_, List.getElem?_eq_getElem (by have := hn.len; omega)⟩
      rw [getD_of hv']
      have := hW.inn _ _ hv'
      rw [show off + (i2 * szOf E t + o) + (o2 - o) = off + (i2 * szOf E t + o2) by omega] at this
      exact this
    · rw [if_neg hne]
      have hj := G.lt R.le h1 h2
      have h4 := R.cell _ _ _ _ h1 h2
      rw [hW.out]
      · exact h4
      · rintro ⟨_, e1, e2⟩
        rw [hn.len] at e2
        have hlo2 : o2 < szOf E t := by have := get_lt h2; rw [G.len] at this; exact this
        have hii : i2 = i := by
          rcases Nat.lt_trichotomy i2 i with h | h | h
          · have : (i2 + 1) * szOf E t ≤ i * szOf E t := Nat.mul_le_mul_right _ h
            rw [Nat.succ_mul] at this
            omega
          · exact h
          · have : (i + 1) * szOf E t ≤ i2 * szOf E t := Nat.mul_le_mul_right _ h
            rw [Nat.succ_mul] at this
            omega
        subst hii
        exact hne ⟨rfl, by omega, by omega⟩
  · rcases hget i2 x2 o2 a2 q1 q2 with ⟨rfl, h1, h2, h3⟩ | ⟨hne, x3, h1, h2⟩
    · rw [if_pos ⟨rfl, h1, h2⟩]
      obtain ⟨v', hv'⟩ : ∃ v', vs[o2 - o]? = some v' := ⟨_, List.getElem?_eq_getElem (by have := hn.len; omega)⟩
      rw [getD_of hv']
      exact (hn.rep _ _ _ hv' h3 q3).stable fun b' j h => ⟨h, hrowF _ _ h⟩
    · rw [if_neg hne]
      exact (R.rep _ _ _ _ h1 h2 q3).stable fun b' j h => ⟨h, hrowF _ _ h⟩
  · rcases hget i2 x2 o2 _ q1 q2 with ⟨rfl, h1, h2, h3⟩ | ⟨hne, x3, h1, h2⟩
    · rw [if_pos ⟨rfl, h1, h2⟩, if_pos ⟨rfl, h1, h2⟩]
      obtain ⟨v', hv'⟩ : ∃ v', vs[o2 - o]? = some v' := ⟨_, List.getElem?_eq_getElem (by have := hn.len; omega)⟩
      rw [getD_of hv']
      refine (hn.own _ _ _ _ hv' h3).stable G (fun b' j h => ⟨h, hrowF _ _ h⟩) (fun b' j h => ⟨hsubW _ _ (fun e => hrow _ _ _ h e), hW.fro _ _⟩) (fun b' j _ h => h)
    · rw [if_neg hne, if_neg hne]
      refine (R.own _ _ _ _ _ h1 h2).stable G (fun b' j h => ⟨h, hrowF _ _ h⟩) (fun b' j h => ⟨hsubW _ _ (fun e => ?_), hW.fro _ _⟩) (fun b' j _ h => h)
      obtain ⟨rfl, e1, e2⟩ := e
      have := R.dr i2 o2 (j - off) (by omega)
      rw [show off + (j - off) = j by omega] at this
      exact this h
  · split at q1 <;> split at q2
    · rename_i e1 e2
      have := hn.dj _ _ _ _ q1 q2
      exact ⟨e1.1.trans e2.1.symm, by omega⟩
    · rename_i e1 e2
      obtain ⟨o3, a1, a2, a3⟩ := hS _ _ _ q1 (R.sub q2)
      have := R.dj _ _ _ _ _ _ q2 a3
      exact absurd ⟨this.1, by omega, by omega⟩ e2
    · rename_i e1 e2
      obtain ⟨o3, a1, a2, a3⟩ := hS _ _ _ q2 (R.sub q1)
      have := R.dj _ _ _ _ _ _ q1 a3
      exact absurd ⟨this.1, by omega, by omega⟩ e1
    · exact R.dj _ _ _ _ _ _ q1 q2
  · split at q
    · exact hrow _ _ _ q ⟨rfl, by omega, by omega⟩
    · exact R.dr _ _ _ hj q
  · split at q
    · rename_i e
      obtain ⟨t', ys, h⟩ := hn.rg _ _ _ q
      refine ⟨x', t', ys, by rw [e.1, List.getElem?_set, if_pos rfl, if_pos hi], ?_⟩
      have hl := G.len t m x
      rw [hx', List.append_assoc, List.getElem?_append_right (by simp; omega), List.getElem?_append_left (by simp; omega)]
      rw [show (((E.cod t).enc m x).take o).length = o by simp; omega]
      exact h
    · rename_i e
      obtain ⟨x3, t', ys, h1, h2⟩ := R.rg _ _ _ _ q
      by_cases e2 : i2 = i
      · subst e2
        rw [hx] at h1
        cases h1
        refine ⟨x', t', ys, by rw [List.getElem?_set, if_pos rfl, if_pos hi], ?_⟩
        have hl := G.len t m x
        have hlo := get_lt h2
        rw [hx', List.append_assoc]
        by_cases g1 : o2 < o
        · rw [List.getElem?_append_left (by simp; omega), List.getElem?_take, if_pos g1]; exact h2
        · rw [List.getElem?_append_right (by simp; omega), List.getElem?_append_right (by simp; omega), List.getElem?_drop]
          rw [show (((E.cod t).enc m x).take o).length = o by simp; omega]
          rw [show o + cs.length + (o2 - o - cs.length) = o2 by omega]
          exact h2
      · exact ⟨x3, t', ys, by rw [List.getElem?_set, if_neg (fun h => e2 h.symm)]; exact h1, h2⟩
  · constructor
    · rintro (h | ⟨i2, o2, h⟩)
      · exact .inl h
      · refine .inr ⟨i2, o2, ?_⟩
        split <;> rename_i e
        · rw [if_pos e] at h; exact h
        · rw [if_neg e] at h; exact h
    · rintro (h | ⟨i2, o2, h⟩)
      · exact .inl h
      · refine .inr ⟨i2, o2, ?_⟩
        split at h <;> rename_i e
        · rw [if_pos e]; exact h
        · rw [if_neg e]; exact h
end
end Go.Proofs.Ytnibdgjlbhdmfaa.Ev
