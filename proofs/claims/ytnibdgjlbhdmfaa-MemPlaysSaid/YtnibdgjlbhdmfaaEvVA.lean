/- Rows inside a root: appended to, cut, stored back to their own place. -/
import Derived.Test.YtnibdgjlbhdmfaaEvV
namespace Go.Proofs.Ytnibdgjlbhdmfaa.Ev
open Go
set_option linter.unusedVariables false
set_option linter.unusedSimpArgs false
section
variable {Ty : Nat → Type} {E : Tb Ty}
variable {X : Set2} {W0 : World} {F F' : Set2} {w w' : World} {hp hp' : Heap Ty} {vals vals' : Nat → Value} {sets sets' : Nat → Set2} {P : Program} {ρ : Operand → Value}
/-- What a tree owns is fixed by the tree. -/
theorem Own.uniq {m : Bool} {v : Value} {t : Nat} {xs : List (Ty t)} {S : Set2} (h : Own E F w m v t xs S) : ∀ {F2 S2 : Set2}, Own E F2 w m v t xs S2 → ∀ b j, S b j → S2 b j := by
  induction h with
  | nil A t S h => intro F2 S2 _ b j hs; exact absurd hs (h b j)
  | row b off c t xs g B S h1 h2 h3 h4 h5 h6 h7 h8 h9 ih =>
    intro F2 S2 k b' j' hs
    rcases k.inv with ⟨⟨A, e⟩, e2, _⟩ | ⟨b2, off2, c2, g2, B2, e, R⟩
    · injection e with q1 q2 q3
      subst q3
      rcases (h9 _ _).1 hs with ⟨_, h, h'⟩ | ⟨i, o, h⟩
      · omega
      · obtain ⟨x, t', ys, e1, _⟩ := h8 _ _ _ _ h
        rw [e2] at e1
        simp at e1
    · injection e with q1 _ q3
      injection q1 with q1
      injection q1 with q1 q4
      subst q1 q4 q3
      rcases (h9 _ _).1 hs with h | ⟨i, o, h⟩
      · exact (R.iff _ _).2 (.inl h)
      · obtain ⟨x, t', ys, e1, e2⟩ := h8 _ _ _ _ h
        have hg : g i o = g2 i o := Option.some.inj ((h3 i x o _ e1 e2).symm.trans (R.cell i x o _ e1 e2))
        have := R.own i x o t' ys e1 e2
        rw [← hg] at this
        exact R.sub (ih i x o t' ys e1 e2 this b' j' h)
theorem Loc.det {m : Bool} : ∀ {p : Path} {v : Value} {t : Nat} {xs : List (Ty t)} {u u2 : Value} {row row2 : Row Ty}, Loc E w m v t xs p u row → Loc E w m v t xs p u2 row2 → u = u2 ∧ row = row2
  | [], v, t, xs, u, u2, row, row2, ⟨h1, h2⟩, ⟨k1, k2⟩ => ⟨h1.trans k1.symm, h2.trans k2.symm⟩
  | (i, o) :: p, v, t, xs, u, u2, row, row2, ⟨b, off, c, x, t', ys, v', h1, h2, h3, h4, h5⟩, ⟨b2, off2, c2, x2, t2, ys2, v2, k1, k2, k3, k4, k5⟩ => by
    rw [h1] at k1
    injection k1 with q1 _ q3
    injection q1 with q1
    injection q1 with q1 q4
    subst q1 q4 q3
    rw [h2] at k2
    cases k2
    rw [h3] at k3
    cases k3
    rw [h4] at k4
    cases k4
    exact Loc.det h5 k5
/-- Spare room written: the tree stands as it stood. -/
theorem Own.spare (G : Good E) {m : Bool} {row : Row Ty} {b off c : Nat} (hW : ∀ b' j, ¬ (b' = b ∧ off + row.xs.length * szOf E row.t ≤ j ∧ j < off + c * szOf E row.t) → w'.cell? ⟨b', j, none⟩ = w.cell? ⟨b', j, none⟩)
    (hfro : ∀ b' j, w'.frozen? ⟨b', j, none⟩ = w.frozen? ⟨b', j, none⟩) (hcap : ∀ j, off + row.xs.length * szOf E row.t ≤ j → j < off + c * szOf E row.t → ∃ v, w'.cell? ⟨b, j, none⟩ = some v) :
    ∀ (p : Path) {v : Value} {t : Nat} {xs : List (Ty t)} {S : Set2}, Own E F w m v t xs S → Loc E w m v t xs p (.slice (some ⟨b, off, none⟩) row.xs.length c) row →
      Own E F w' m v t xs S ∧ ∀ (q : Path) (u2 : Value) (row2 : Row Ty), Loc E w m v t xs q u2 row2 → Loc E w' m v t xs q u2 row2
  | [], v, t, xs, S, ho, ⟨hv, hr⟩ => by
    subst hr
    rcases ho.inv with ⟨⟨A, e⟩, e2, h0⟩ | ⟨b0, off0, c0, g, B, e, R⟩
    · subst e2
      rw [e]
      refine ⟨.nil A t S h0, fun q u2 row2 hl => ?_⟩
      cases q with
      | nil => exact hl
      | cons s q => obtain ⟨_, _, _, x, _, _, _, _, h2, _⟩ := hl; simp at h2
    · rw [← hv] at e
      injection e with q1 _ q3
      injection q1 with q1
      injection q1 with q1 q4
      subst q1 q4 q3
      simp only at hW hcap
      have hF : ∀ b' j, F b' j → w'.cell? ⟨b', j, none⟩ = w.cell? ⟨b', j, none⟩ := fun b' j h => hW _ _ (fun ⟨e1, e2, e3⟩ => by
        subst e1
        have := (R.cap (j - off) (by omega)).2.2
        rw [show off + (j - off) = j by omega] at this
        exact this h)
      have hcell : ∀ (i : Nat) x (o : Nat) a, xs[i]? = some x → ((E.cod t).enc m x)[o]? = some a → w'.cell? ⟨b, off + (i * szOf E t + o), none⟩ = w.cell? ⟨b, off + (i * szOf E t + o), none⟩ := fun i x o a e1 e2 => hW _ _ (fun ⟨_, h1, _⟩ => by
        have ho : o < szOf E t := by have := get_lt e2; rw [G.len] at this; exact this
        have := lt_cells (get_lt e1) (Nat.le_refl _) ho
        omega)
      have hB : ∀ i o b' j, B i o b' j → w'.cell? ⟨b', j, none⟩ = w.cell? ⟨b', j, none⟩ := fun i o b' j h => hW _ _ (fun ⟨e1, e2, e3⟩ => by
        subst e1
        have := R.dr i o (j - off) (by omega)
        rw [show off + (j - off) = j by omega] at this
        exact this h)
      refine ⟨?_, fun q u2 row2 hl => ?_⟩
      · rw [← hv]
        refine OwnR.toOwn (g := g) (B := B) ⟨R.le, fun j hj => ?_, fun i x o a e1 e2 => (hcell i x o a e1 e2).trans (R.cell i x o a e1 e2), fun i x o a e1 e2 e3 => (R.rep i x o a e1 e2 e3).stable fun b' j h => ⟨h, hF _ _ h⟩,
          fun i x o t' ys e1 e2 => (R.own i x o t' ys e1 e2).stable G (fun b' j h => ⟨h, hF _ _ h⟩) (fun b' j h => ⟨hB _ _ _ _ h, hfro _ _⟩) (fun b' j _ h => h), R.dj, R.dr, R.rg, R.iff⟩
        obtain ⟨⟨v1, h1⟩, h2, h3⟩ := R.cap j hj
        refine ⟨?_, (hfro _ _).trans h2, h3⟩
        by_cases e : off + xs.length * szOf E t ≤ off + j
        · have hj' : j < c * szOf E t := hj
          exact hcap _ e (show off + j < off + c * szOf E t by omega)
        · exact ⟨v1, (hW _ _ (fun h => e h.2.1)).trans h1⟩
      · cases q with
        | nil => exact hl
        | cons s q =>
          obtain ⟨i2, o2⟩ := s
          obtain ⟨b2, off2, c2, x, t', ys, v', h1, h2, h3, h4, h5⟩ := hl
          rw [← hv] at h1
          injection h1 with q1 _ q3
          injection q1 with q1
          injection q1 with q1 q4
          subst q1 q4 q3
          have hg : g i2 o2 = v' := Option.some.inj ((R.cell i2 x o2 _ h2 h3).symm.trans h4)
          have hsub := R.own i2 x o2 t' ys h2 h3
          rw [hg] at hsub
          exact ⟨b, off, c, x, t', ys, v', hv.symm, h2, h3, (hcell _ _ _ _ h2 h3).trans h4, h5.stable hsub G fun b' j h => hB _ _ _ _ h⟩
  | (i, o) :: p, v, t, xs, S, ho, ⟨b1, off1, c1, x, t', ys, v', h1, h2, h3, h4, h5⟩ => by
    rcases ho.inv with ⟨_, hnil, _⟩ | ⟨b0, off0, c0, g, B, hv0, R⟩
    · rw [hnil] at h2; simp at h2
    · rw [h1] at hv0
      injection hv0 with e1 e2 e3
      injection e1 with e1
      injection e1 with e1 e4
      subst e1 e4 e3
      have hg : g i o = v' := Option.some.inj ((R.cell i x o _ h2 h3).symm.trans h4)
      have hsub := R.own i x o t' ys h2 h3
      rw [hg] at hsub
      obtain ⟨hO, hL⟩ := Own.spare G hW hfro hcap p hsub h5
      have hrange : ∀ j, off + row.xs.length * szOf E row.t ≤ j → j < off + c * szOf E row.t → B i o b j := fun j q1 q2 => by
        have := Loc.cells G hsub h5 (j - off) (by omega)
        rwa [show off + (j - off) = j by omega] at this
      have hrow : ∀ j, j < c1 * szOf E t → w'.cell? ⟨b1, off1 + j, none⟩ = w.cell? ⟨b1, off1 + j, none⟩ := fun j hj => hW _ _ (fun ⟨q1, q2, q3⟩ => by
        have := hrange _ q2 q3
        rw [← q1] at this
        exact R.dr _ _ _ hj this)
      have hother : ∀ i2 o2 b' j, ¬ (i2 = i ∧ o2 = o) → B i2 o2 b' j → w'.cell? ⟨b', j, none⟩ = w.cell? ⟨b', j, none⟩ := fun i2 o2 b' j hne h => hW _ _ (fun ⟨q1, q2, q3⟩ => by
        subst q1
        exact hne (R.dj _ _ _ _ _ _ h (hrange _ q2 q3)))
      have hF : ∀ b' j, F b' j → w'.cell? ⟨b', j, none⟩ = w.cell? ⟨b', j, none⟩ := fun b' j h => hW _ _ (fun ⟨q1, q2, q3⟩ => by
        subst q1
        exact (hsub.free _ _ (hrange _ q2 q3)).2.2 h)
      refine ⟨?_, fun q u2 row2 hl => ?_⟩
      · rw [h1]
        refine OwnR.toOwn (g := g) (B := B) ⟨R.le, fun j hj => ?_, fun i2 x2 o2 a e1 e2 => (hrow _ (G.lt R.le e1 e2)).trans (R.cell i2 x2 o2 a e1 e2), fun i2 x2 o2 a e1 e2 e3 => (R.rep i2 x2 o2 a e1 e2 e3).stable fun b' j h => ⟨h, hF _ _ h⟩,
          fun i2 x2 o2 t2 zs e1 e2 => ?_, R.dj, R.dr, R.rg, R.iff⟩
        · obtain ⟨⟨v1, k1⟩, k2, k3⟩ := R.cap j hj
          exact ⟨⟨v1, (hrow j hj).trans k1⟩, (hfro _ _).trans k2, k3⟩
        · by_cases e : i2 = i ∧ o2 = o
          · obtain ⟨rfl, rfl⟩ := e
            rw [h2] at e1
            cases e1
            rw [h3] at e2
            cases e2
            rw [hg]
            exact hO
          · exact (R.own i2 x2 o2 t2 zs e1 e2).stable G (fun b' j h => ⟨h, hF _ _ h⟩) (fun b' j h => ⟨hother _ _ _ _ e h, hfro _ _⟩) (fun b' j _ h => h)
      · cases q with
        | nil => exact hl
        | cons s q =>
          obtain ⟨i2, o2⟩ := s
          obtain ⟨b2, off2, c2, x2, t2, zs, v2, g1, g2, g3, g4, g5⟩ := hl
          rw [h1] at g1
          injection g1 with q1 _ q3
          injection q1 with q1
          injection q1 with q1 q4
          subst q1 q4 q3
          have hc := (hrow _ (G.lt R.le g2 g3)).trans g4
          by_cases e : i2 = i ∧ o2 = o
          · obtain ⟨rfl, rfl⟩ := e
            rw [h2] at g2
            cases g2
            rw [h3] at g3
            cases g3
            rw [h4] at g4
            cases g4
            exact ⟨b1, off1, c1, x, t', ys, v', h1, h2, h3, hc, hL q u2 row2 g5⟩
          · have hg2 : g i2 o2 = v2 := Option.some.inj ((R.cell i2 x2 o2 _ g2 g3).symm.trans g4)
            have hsub2 := R.own i2 x2 o2 t2 zs g2 g3
            rw [hg2] at hsub2
            exact ⟨b1, off1, c1, x2, t2, zs, v2, h1, g2, g3, hc, g5.stable hsub2 G fun b' j h => hother _ _ _ _ e h⟩
end
end Go.Proofs.Ytnibdgjlbhdmfaa.Ev
