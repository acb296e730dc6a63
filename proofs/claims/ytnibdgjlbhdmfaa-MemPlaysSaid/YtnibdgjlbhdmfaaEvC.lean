/- Owned trees: a row inside, taken out and put back; an owned tree as a frozen one. -/
import Derived.Test.YtnibdgjlbhdmfaaEvB
namespace Go.Proofs.Ytnibdgjlbhdmfaa.Ev
open Go
set_option linter.unusedVariables false
section
variable {Ty : Nat → Type} {E : Tb Ty}
variable (E) in
structure OwnR (F : Set2) (w : World) (m : Bool) (b off c t : Nat) (xs : List (Ty t)) (g : Nat → Nat → Value) (B : Nat → Nat → Set2) (S : Set2) : Prop where
  le : xs.length ≤ c
  cap : ∀ j, j < c * szOf E t → (∃ v, w.cell? ⟨b, off + j, none⟩ = some v) ∧ w.frozen? ⟨b, off + j, none⟩ = false ∧ ¬ F b (off + j)
  cell : ∀ (i : Nat) x (o : Nat) a, xs[i]? = some x → ((E.cod t).enc m x)[o]? = some a → w.cell? ⟨b, off + (i * szOf E t + o), none⟩ = some (g i o)
  rep : ∀ (i : Nat) x (o : Nat) a, xs[i]? = some x → ((E.cod t).enc m x)[o]? = some a → ¬ isOwn a → Rep E F w (g i o) a
  own : ∀ (i : Nat) x (o : Nat) t' ys, xs[i]? = some x → ((E.cod t).enc m x)[o]? = some (.sl true t' ys) → Own E F w m (g i o) t' ys (B i o)
  dj : ∀ i o i' o' b' j', B i o b' j' → B i' o' b' j' → i = i' ∧ o = o'
  dr : ∀ i o j, j < c * szOf E t → ¬ B i o b (off + j)
  rg : ∀ i o b' j', B i o b' j' → ∃ x t' ys, xs[i]? = some x ∧ ((E.cod t).enc m x)[o]? = some (.sl true t' ys)
  iff : ∀ b' j', S b' j' ↔ (b' = b ∧ off ≤ j' ∧ j' < off + c * szOf E t) ∨ ∃ i o, B i o b' j'
theorem OwnR.toOwn {F : Set2} {w : World} {m : Bool} {b off c t : Nat} {xs : List (Ty t)} {g : Nat → Nat → Value} {B : Nat → Nat → Set2} {S : Set2} (h : OwnR E F w m b off c t xs g B S) :
    Own E F w m (.slice (some ⟨b, off, none⟩) xs.length c) t xs S := .row b off c t xs g B S h.le h.cap h.cell h.rep h.own h.dj h.dr h.rg h.iff
theorem Own.inv {F : Set2} {w : World} {m : Bool} {v : Value} {t : Nat} {xs : List (Ty t)} {S : Set2} (h : Own E F w m v t xs S) :
    ((∃ A, v = .slice A 0 0) ∧ xs = [] ∧ ∀ b j, ¬ S b j) ∨ ∃ b off c g B, v = .slice (some ⟨b, off, none⟩) xs.length c ∧ OwnR E F w m b off c t xs g B S := by
  cases h with
  | nil A t S h => exact .inl ⟨⟨A, rfl⟩, rfl, h⟩
  | row b off c t xs g B S h1 h2 h3 h4 h5 h6 h7 h8 h9 => exact .inr ⟨b, off, c, g, B, rfl, ⟨h1, h2, h3, h4, h5, h6, h7, h8, h9⟩⟩
theorem Own.congr {F : Set2} {w : World} {m : Bool} {v : Value} {t : Nat} {xs : List (Ty t)} {S S' : Set2} (h : Own E F w m v t xs S) (hs : ∀ b j, S' b j ↔ S b j) : Own E F w m v t xs S' := by
  rcases h.inv with ⟨⟨A, rfl⟩, rfl, k⟩ | ⟨b, off, c, g, B, rfl, k⟩
  · exact .nil A t S' (fun b j q => k b j ((hs b j).1 q))
  · exact OwnR.toOwn ⟨k.le, k.cap, k.cell, k.rep, k.own, k.dj, k.dr, k.rg, fun b' j' => (hs b' j').trans (k.iff b' j')⟩
theorem OwnR.mem {F : Set2} {w : World} {m : Bool} {b off c t : Nat} {xs : List (Ty t)} {g : Nat → Nat → Value} {B : Nat → Nat → Set2} {S : Set2} (h : OwnR E F w m b off c t xs g B S) {j : Nat} (hj : j < c * szOf E t) : S b (off + j) :=
  (h.iff _ _).2 (.inl ⟨rfl, by omega, by omega⟩)
theorem OwnR.sub {F : Set2} {w : World} {m : Bool} {b off c t : Nat} {xs : List (Ty t)} {g : Nat → Nat → Value} {B : Nat → Nat → Set2} {S : Set2} (h : OwnR E F w m b off c t xs g B S) {i o b' j' : Nat} (k : B i o b' j') : S b' j' :=
  (h.iff _ _).2 (.inr ⟨i, o, k⟩)
/-- All that a tree owns is there, may be written, and is not frozen. -/
theorem Own.free {F : Set2} {w : World} {m : Bool} {v : Value} {t : Nat} {xs : List (Ty t)} {S : Set2} (h : Own E F w m v t xs S) : ∀ b j, S b j → (∃ u, w.cell? ⟨b, j, none⟩ = some u) ∧ w.frozen? ⟨b, j, none⟩ = false ∧ ¬ F b j := by
  induction h with
  | nil A t S h => intro b j k; exact absurd k (h b j)
  | row b off c t xs g B S h1 h2 h3 h4 h5 h6 h7 h8 h9 ih =>
    intro b' j' k
    rcases (h9 b' j').1 k with ⟨rfl, k1, k2⟩ | ⟨i, o, k⟩
    · have := h2 (j' - off) (by omega)
      rwa [show off + (j' - off) = j' by omega] at this
    · obtain ⟨x, t', ys, e1, e2⟩ := h8 _ _ _ _ k
      exact ih i x o t' ys e1 e2 b' j' k
variable (E) in
/-- The row at a path, and the value that stands for it there. -/
def Loc (w : World) (m : Bool) : (v : Value) → (t : Nat) → (xs : List (Ty t)) → Path → Value → Row Ty → Prop
  | v, t, xs, [], u, row => u = v ∧ row = ⟨t, xs⟩
  | v, t, xs, (i, o) :: p, u, row => ∃ b off c x t' ys v', v = .slice (some ⟨b, off, none⟩) xs.length c ∧ xs[i]? = some x ∧ ((E.cod t).enc m x)[o]? = some (.sl true t' ys) ∧
      w.cell? ⟨b, off + (i * szOf E t + o), none⟩ = some v' ∧ Loc w m v' t' ys p u row
theorem getD_of {α : Type} {l : List α} {i : Nat} {a d : α} (h : l[i]? = some a) : l.getD i d = a := by simp [List.getD, h]
theorem cellOf_of {m : Bool} {t : Nat} {xs : List (Ty t)} {i o : Nat} {x : Ty t} {a : AV Ty} (h1 : xs[i]? = some x) (h2 : ((E.cod t).enc m x)[o]? = some a) : cellOf E m t xs i o = a := by
  unfold cellOf
  rw [getD_of h1, getD_of h2]
theorem Loc.nav {w : World} {m : Bool} : ∀ {p : Path} {v : Value} {t : Nat} {xs : List (Ty t)} {u : Value} {row : Row Ty}, Loc E w m v t xs p u row → nav E m t xs p = some row
  | [], _, _, _, _, _, ⟨_, h⟩ => by rw [h]; rfl
  | (i, o) :: p, _, _, _, _, _, ⟨b, off, c, x, t', ys, v', _, h1, h2, _, h⟩ => by
    unfold Ev.nav
    rw [cellOf_of h1 h2]
    exact Loc.nav h
theorem setCell_inv (G : Good E) {m : Bool} {t : Nat} {xs xs' : List (Ty t)} {i o : Nat} {x : Ty t} {a : AV Ty} (h1 : xs[i]? = some x) (h : setCell E m t xs i o a = some xs') :
    ∃ x', xs' = xs.set i x' ∧ (E.cod t).enc m x' = ((E.cod t).enc m x).set o a := by
  unfold setCell at h
  rw [getD_of h1] at h
  split at h
  · rename_i x' e
    exact ⟨x', (Option.some.inj h).symm, G.dec _ _ _ _ e⟩
  · cases h
theorem focus (G : Good E) {F : Set2} {w : World} {m : Bool} : ∀ (p : Path) {v : Value} {t : Nat} {xs : List (Ty t)} {S : Set2} {u : Value} {row : Row Ty}, Own E F w m v t xs S → Loc E w m v t xs p u row →
    ∃ S', Own E F w m u row.t row.xs S' ∧ (∀ b j, S' b j → S b j) ∧
      ∀ (w' : World) (ys' : List (Ty row.t)) (S3 : Set2) (f : (t : Nat) → List (Ty t) → Option (List (Ty t))) (xs' : List (Ty t)), Own E F w' m u row.t ys' S3 → ys'.length = row.xs.length →
        Agree (fun b j => S b j ∧ ¬ S' b j) w w' → (∀ b j, F b j → w'.cell? ⟨b, j, none⟩ = w.cell? ⟨b, j, none⟩) → (∀ b j, S3 b j → S b j → S' b j) →
        f row.t row.xs = some ys' → upd E m t xs p f = some xs' → Own E F w' m v t xs' (fun b j => (S b j ∧ ¬ S' b j) ∨ S3 b j) ∧ xs'.length = xs.length
  | [], v, t, xs, S, u, row, ho, ⟨hu, hr⟩ => by
    subst hu hr
    refine ⟨S, ho, fun _ _ h => h, fun w' ys' S3 f xs' h1 h2 h3 h4 h5 h6 h7 => ?_⟩
    have e : ys' = xs' := Option.some.inj (h6.symm.trans h7)
    subst e
    exact ⟨h1.congr fun b j => ⟨fun h => h.elim (fun h => absurd h.1 h.2) id, .inr⟩, h2⟩
  | (i, o) :: p, v, t, xs, S, u, row, ho, ⟨b, off, c, x, t', ys, v', hv, hx, ha, hc, hl⟩ => by
    rcases ho.inv with ⟨_, hnil, _⟩ | ⟨b0, off0, c0, g, B, hv0, R⟩
    · rw [hnil] at hx; simp at hx
    · rw [hv] at hv0
      injection hv0 with e1 e2 e3
      injection e1 with e1
      injection e1 with e1 e4
      subst e1 e4 e3
      have hg : g i o = v' := Option.some.inj ((R.cell i x o _ hx ha).symm.trans hc)
      have hsub := R.own i x o t' ys hx ha
      rw [hg] at hsub
      obtain ⟨S', hS1, hS2, hS3⟩ := focus G p hsub hl
      refine ⟨S', hS1, fun b' j' h => R.sub (hS2 _ _ h), fun w' ys' S3 f xs' k1 k2 k3 k4 k5 k6 k7 => ?_⟩
      have hrow : ∀ j, j < c * szOf E t → ¬ S' b (off + j) := fun j hj h => R.dr i o j hj (hS2 _ _ h)
      unfold upd at k7
      rw [cellOf_of hx ha] at k7
      simp only at k7
      split at k7
      · rename_i ys1 e1
        obtain ⟨x', hxs, hx'⟩ := setCell_inv G hx k7
        obtain ⟨j1, j2⟩ := hS3 w' ys' S3 f ys1 k1 k2 (fun b' j' h => k3 b' j' ⟨R.sub h.1, h.2⟩) k4 (fun b' j' h3 h => k5 b' j' h3 (R.sub h)) k6 e1
        subst hxs
        have hi : i < xs.length := get_lt hx
        have hoo : o < ((E.cod t).enc m x).length := get_lt ha
        have hget : ∀ (i2 : Nat) x2 (o2 : Nat) a2, (xs.set i x')[i2]? = some x2 → ((E.cod t).enc m x2)[o2]? = some a2 →
            (i2 = i ∧ o2 = o ∧ a2 = .sl true t' ys1) ∨ (¬ (i2 = i ∧ o2 = o) ∧ ∃ x3, xs[i2]? = some x3 ∧ ((E.cod t).enc m x3)[o2]? = some a2) := by
          intro i2 x2 o2 a2 q1 q2
          rw [List.getElem?_set] at q1
          by_cases e : i = i2
          · subst e
            rw [if_pos rfl, if_pos hi] at q1
            cases q1
            rw [hx', List.getElem?_set] at q2
            by_cases e : o = o2
            · subst e
              rw [if_pos rfl, if_pos hoo] at q2
              cases q2
              exact .inl ⟨rfl, rfl, rfl⟩
            · rw [if_neg e] at q2
              exact .inr ⟨fun h => e h.2.symm, x, hx, q2⟩
          · rw [if_neg e] at q1
            exact .inr ⟨fun h => e h.1.symm, x2, q1, q2⟩
        have hself : (xs.set i x')[i]? = some x' ∧ ((E.cod t).enc m x')[o]? = some (.sl true t' ys1) := by
          constructor
          · rw [List.getElem?_set, if_pos rfl, if_pos hi]
          · rw [hx', List.getElem?_set, if_pos rfl, if_pos hoo]
        refine ⟨?_, List.length_set⟩
        rw [hv, show xs.length = (xs.set i x').length from List.length_set.symm]
        refine OwnR.toOwn (g := g) (B := fun i2 o2 b' j' => (i2 = i ∧ o2 = o ∧ ((B i o b' j' ∧ ¬ S' b' j') ∨ S3 b' j')) ∨ (¬ (i2 = i ∧ o2 = o) ∧ B i2 o2 b' j')) ⟨?_, ?_, ?_, ?_, ?_, ?_, ?_, ?_, ?_⟩
        · rw [List.length_set]; exact R.le
        · intro j hj
          obtain ⟨⟨v1, h1⟩, h2, h3⟩ := R.cap j hj
          obtain ⟨q1, q2⟩ := k3 b (off + j) ⟨R.mem hj, hrow j hj⟩
          exact ⟨⟨v1, q1.trans h1⟩, q2.trans h2, h3⟩
        · intro i2 x2 o2 a2 q1 q2
          rcases hget i2 x2 o2 a2 q1 q2 with ⟨rfl, rfl, rfl⟩ | ⟨_, x3, q3, q4⟩
          · have hj := G.lt R.le hx ha
            rw [(k3 b _ ⟨R.mem hj, hrow _ hj⟩).1]
            exact R.cell _ _ _ _ hx ha
          · have hj := G.lt R.le q3 q4
            rw [(k3 b _ ⟨R.mem hj, hrow _ hj⟩).1]
            exact R.cell _ _ _ _ q3 q4
        · intro i2 x2 o2 a2 q1 q2 q5
          rcases hget i2 x2 o2 a2 q1 q2 with ⟨rfl, rfl, rfl⟩ | ⟨_, x3, q3, q4⟩
          · exact absurd trivial q5
          · exact (R.rep _ _ _ _ q3 q4 q5).stable fun b' j' h => ⟨h, k4 _ _ h⟩
        · intro i2 x2 o2 t2 zs q1 q2
          rcases hget i2 x2 o2 _ q1 q2 with ⟨rfl, rfl, e⟩ | ⟨hne, x3, q3, q4⟩
          · cases e
            rw [hg]
            exact j1.congr fun b' j' => ⟨fun h => h.elim (fun h => h.2.2) (fun h => absurd ⟨rfl, rfl⟩ h.1), fun h => .inl ⟨rfl, rfl, h⟩⟩
          · refine ((R.own _ _ _ _ _ q3 q4).stable G (fun b' j' h => ⟨h, k4 _ _ h⟩) (fun b' j' h => k3 b' j' ⟨R.sub h, fun h' => ?_⟩) (fun b' j' _ h => h)).congr fun b' j' => ⟨fun h => h.elim (fun h => absurd ⟨h.1, h.2.1⟩ hne) (fun h => h.2), fun h => .inr ⟨hne, h⟩⟩
            exact hne (R.dj _ _ _ _ _ _ h (hS2 _ _ h'))
        · intro i1 o1 i2 o2 b' j' q1 q2
          rcases q1 with ⟨rfl, rfl, q1⟩ | ⟨n1, q1⟩ <;> rcases q2 with ⟨rfl, rfl, q2⟩ | ⟨n2, q2⟩
          · exact ⟨rfl, rfl⟩
          · rcases q1 with q1 | q1
            · exact R.dj _ _ _ _ _ _ q1.1 q2
            · exact R.dj _ _ _ _ _ _ (hS2 _ _ (k5 _ _ q1 (R.sub q2))) q2
          · rcases q2 with q2 | q2
            · exact R.dj _ _ _ _ _ _ q1 q2.1
            · exact R.dj _ _ _ _ _ _ q1 (hS2 _ _ (k5 _ _ q2 (R.sub q1)))
          · exact R.dj _ _ _ _ _ _ q1 q2
        · intro i2 o2 j hj q
          rcases q with ⟨rfl, rfl, q | q⟩ | ⟨_, q⟩
          · exact R.dr _ _ j hj q.1
          · exact hrow j hj (k5 _ _ q (R.mem hj))
          · exact R.dr _ _ j hj q
        · intro i2 o2 b' j' q
          rcases q with ⟨rfl, rfl, _⟩ | ⟨hne, q⟩
          · exact ⟨x', t', ys1, hself.1, hself.2⟩
          · obtain ⟨x3, t3, zs, q3, q4⟩ := R.rg _ _ _ _ q
            by_cases e : i2 = i
            · subst e
              rw [hx] at q3
              cases q3
              refine ⟨x', t3, zs, hself.1, ?_⟩
              rw [hx', List.getElem?_set, if_neg (fun e => hne ⟨rfl, e.symm⟩)]
              exact q4
            · refine ⟨x3, t3, zs, ?_, q4⟩
              rw [List.getElem?_set, if_neg (fun h => e h.symm)]
              exact q3
        · intro b' j'
          constructor
          · rintro (⟨h1, h2⟩ | h)
            · rcases (R.iff b' j').1 h1 with h | ⟨i2, o2, h⟩
              · exact .inl h
              · by_cases e : i2 = i ∧ o2 = o
                · obtain ⟨rfl, rfl⟩ := e
                  exact .inr ⟨i2, o2, .inl ⟨rfl, rfl, .inl ⟨h, h2⟩⟩⟩
                · exact .inr ⟨i2, o2, .inr ⟨e, h⟩⟩
            · exact .inr ⟨i, o, .inl ⟨rfl, rfl, .inr h⟩⟩
          · rintro (h | ⟨i2, o2, ⟨rfl, rfl, h | h⟩ | ⟨hne, h⟩⟩)
            · obtain ⟨rfl, h1, h2⟩ := h
              have := hrow (j' - off) (by omega)
              rw [show off + (j' - off) = j' by omega] at this
              exact .inl ⟨(R.iff _ _).2 (.inl ⟨rfl, h1, h2⟩), this⟩
            · exact .inl ⟨R.sub h.1, h.2⟩
            · exact .inr h
            · exact .inl ⟨R.sub h, fun h' => hne (R.dj _ _ _ _ _ _ h (hS2 _ _ h'))⟩
      · cases k7
/-- An owned tree, looked at only: a frozen one. -/
theorem Own.rep (G : Good E) {F F' : Set2} {w : World} {m : Bool} {v : Value} {t : Nat} {xs : List (Ty t)} {S : Set2} (h : Own E F w m v t xs S) (hF : ∀ b j, F b j → F' b j) (hS : ∀ b j, S b j → F' b j) :
    Rep E F' w v (.sl false t xs) := by
  induction h with
  | nil A t S h => exact .nil A 0 t
  | row b off c t xs g B S h1 h2 h3 h4 h5 h6 h7 h8 h9 ih =>
    have key : ∀ (i : Nat) x (o : Nat) a, xs[i]? = some x → ((E.cod t).enc false x)[o]? = some a → ∃ a', ((E.cod t).enc m x)[o]? = some a' ∧ ((¬ isOwn a' ∧ a = a') ∨ ∃ t' ys, a' = .sl true t' ys ∧ a = .sl false t' ys) := by
      intro i x o a e1 e2
      have ho : o < ((E.cod t).enc m x).length := by rw [G.len, ← G.len t false x]; exact get_lt e2
      obtain ⟨a', ha'⟩ : ∃ a', ((E.cod t).enc m x)[o]? = some a' := ⟨_, List.getElem?_eq_getElem ho⟩
      refine ⟨a', ha', ?_⟩
      cases m with
      | false =>
        rw [e2] at ha'; cases ha'
        refine .inl ⟨fun h => ?_, rfl⟩
        cases a <;> try exact h
        rename_i q _ _
        cases q
        · exact h
        · exact G.frozen e2
      | true =>
        rcases G.cell t true x a' (List.mem_of_getElem? ha') with ⟨y, hy, _⟩ | ⟨q, t', ys, hy, _⟩
        · subst hy
          have hn : ¬ isOwn (AV.v y : AV Ty) := fun h => h
          have := G.flip' t x o _ ha' hn
          exact .inl ⟨hn, Option.some.inj (e2.symm.trans this)⟩
        · subst hy
          cases q with
          | true =>
            have := G.flip t x o _ _ ha'
            exact .inr ⟨t', ys, rfl, Option.some.inj (e2.symm.trans this)⟩
          | false =>
            have hn : ¬ isOwn (AV.sl false t' ys : AV Ty) := fun h => h
            have := G.flip' t x o _ ha' hn
            exact .inl ⟨hn, Option.some.inj (e2.symm.trans this)⟩
    refine .sl b off c t xs g h1 (fun i x o a e1 e2 => ?_) (fun i x o a e1 e2 => ?_)
    · obtain ⟨a', e3, _⟩ := key i x o a e1 e2
      refine ⟨h3 i x o a' e1 e3, hS _ _ ((h9 _ _).2 (.inl ⟨rfl, by omega, ?_⟩))⟩
      have := G.lt h1 e1 e3
      omega
    · obtain ⟨a', e3, ⟨hn, rfl⟩ | ⟨t', ys, rfl, rfl⟩⟩ := key i x o a e1 e2
      · exact (h4 i x o _ e1 e3 hn).stable fun b j h => ⟨hF b j h, rfl⟩
      · exact ih i x o t' ys e1 e3 (fun b' j' h => hS _ _ ((h9 _ _).2 (.inr ⟨i, o, h⟩)))
end
end Go.Proofs.Ytnibdgjlbhdmfaa.Ev
