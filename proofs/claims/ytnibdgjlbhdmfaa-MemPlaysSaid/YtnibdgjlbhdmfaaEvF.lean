/- The evaluator's operations that leave memory alone: the machine does the same. -/
import Derived.Test.YtnibdgjlbhdmfaaEvE
namespace Go.Proofs.Ytnibdgjlbhdmfaa.Ev
open Go
set_option linter.unusedVariables false
set_option linter.unusedSimpArgs false
section
variable {Ty : Nat → Type} {E : Tb Ty}
variable {F : Set2} {w : World} {hp : Heap Ty} {vals : Nat → Value} {sets : Nat → Set2}
theorem VRep.v {v x : Value} (h : VRep E F w hp vals v (.v x)) : v = x := by
  cases h with
  | rep _ _ h => cases h; rfl
theorem VRep.sl {v : Value} {t : Nat} {xs : List (Ty t)} (h : VRep E F w hp vals v (.sl false t xs)) : Rep E F w v (.sl false t xs) := by
  cases h with
  | rep _ _ h => exact h
theorem VRep.rp {v : Value} {t : Nat} {xs : List (Ty t)} {i o : Nat} (h : VRep E F w hp vals v (.rp t xs i o)) : Rep E F w v (.rp t xs i o) := by
  cases h with
  | rep _ _ h => exact h
theorem Rep.slen {v : Value} {t : Nat} {xs : List (Ty t)} (h : Rep E F w v (.sl false t xs)) : ∃ A c, v = .slice A xs.length c := by
  cases h with
  | nil A c t => exact ⟨A, c, rfl⟩
  | sl b off c t xs g => exact ⟨_, c, rfl⟩
theorem Rep.slen' {v : Value} {t : Nat} {xs : List (Ty t)} (h : Rep E F w v (.sl false t xs)) : ∃ A c, v = .slice A xs.length c ∧ xs.length ≤ c := by
  cases h with
  | nil A c t => exact ⟨A, c, rfl, Nat.zero_le _⟩
  | sl b off c t xs g h => exact ⟨_, c, rfl, h⟩
theorem VRep.ref' {v : Value} {r : Nat} {p : Path} {vw : Option (Nat × Nat)} {full : Bool} (h : VRep E F w hp vals v (.ref r p vw full)) :
    ∃ R u row, root hp r = some R ∧ Loc E w R.m (vals r) R.t R.xs p u row ∧ ViewOk (szOf E row.t) row.xs.length u vw full v := by
  cases h with
  | rep _ _ h => cases h
  | ref r p vw full v R u row h1 h2 h3 => exact ⟨R, u, row, h1, h2, h3⟩
theorem VRep.ptr' {v : Value} {r : Nat} {p : Path} {i o : Nat} (h : VRep E F w hp vals v (.ptr r p i o)) :
    ∃ R b off c row, root hp r = some R ∧ Loc E w R.m (vals r) R.t R.xs p (.slice (some ⟨b, off, none⟩) row.xs.length c) row ∧ i < row.xs.length ∧ v = .pointer (some ⟨b, off + (i * szOf E row.t + o), none⟩) := by
  cases h with
  | rep _ _ h => cases h
  | ptr r p i o R b off c row h1 h2 h3 => exact ⟨R, b, off, c, row, h1, h2, h3, rfl⟩
theorem VRep.agg' {v : Value} {cs : List (AV Ty)} (h : VRep E F w hp vals v (.agg cs)) : ∃ vs : Array Value, v = .agg vs ∧ vs.size = cs.length ∧ ∀ (i : Nat) v a, vs[i]? = some v → cs[i]? = some a → VRep E F w hp vals v a := by
  cases h with
  | rep _ _ h => cases h with
    | agg vs cs h1 h2 => exact ⟨vs, rfl, h1, fun i v a h3 h4 => .rep _ _ (h2 i v a h3 h4)⟩
  | agg vs cs h1 h2 => exact ⟨vs, rfl, h1, h2⟩
theorem VRep.tup' {v : Value} {cs : List (AV Ty)} (h : VRep E F w hp vals v (.tup cs)) : ∃ vs : Array Value, v = .tuple vs ∧ vs.size = cs.length ∧ ∀ (i : Nat) v a, vs[i]? = some v → cs[i]? = some a → VRep E F w hp vals v a := by
  cases h with
  | rep _ _ h => cases h with
    | tup vs cs h1 h2 => exact ⟨vs, rfl, h1, fun i v a h3 h4 => .rep _ _ (h2 i v a h3 h4)⟩
  | tup vs cs h1 h2 => exact ⟨vs, rfl, h1, h2⟩
theorem rowAt_of {r : Nat} {p : Path} {R : Root Ty} {u : Value} {row : Row Ty} (h1 : root hp r = some R) (h2 : Loc E w R.m (vals r) R.t R.xs p u row) : rowAt E hp r p = some (R.m, row) := by
  unfold rowAt
  simp only [h1, h2.nav]
theorem ViewOk.len {z n : Nat} {u : Value} {vw : Option (Nat × Nat)} {full : Bool} {v : Value} (h : ViewOk z n u vw full v) (hu : ∃ A c, u = .slice A n c) {t : Nat} {xs : List (Ty t)} (hn : xs.length = n) : ∃ A c, v = .slice A (vlen xs vw) c := by
  cases vw with
  | none => obtain ⟨rfl, _⟩ := h; obtain ⟨A, c, rfl⟩ := hu; subst hn; exact ⟨A, c, rfl⟩
  | some ok =>
    obtain ⟨o, k⟩ := ok
    rcases h with ⟨_, ⟨rfl, A, rfl⟩ | ⟨b, off, c, c', _, rfl, _⟩⟩
    · exact ⟨A, 0, rfl⟩
    · exact ⟨_, c', rfl⟩
theorem Own.head {m : Bool} {v : Value} {t : Nat} {xs : List (Ty t)} {S : Set2} (h : Own E F w m v t xs S) : ∃ A c, v = .slice A xs.length c := by
  rcases h.inv with ⟨⟨A, rfl⟩, rfl, _⟩ | ⟨b, off, c, g, B, rfl, _⟩
  · exact ⟨A, 0, rfl⟩
  · exact ⟨_, c, rfl⟩
/-- The owned row that stands at a path. -/
theorem HRel.at (G : Good E) (H : HRel E F w hp vals sets) {r : Nat} {p : Path} {R : Root Ty} {u : Value} {row : Row Ty} (h1 : root hp r = some R) (h2 : Loc E w R.m (vals r) R.t R.xs p u row) : ∃ S, Own E F w R.m u row.t row.xs S := by
  obtain ⟨S, h, _⟩ := focus G p (H.own r R h1) h2
  exact ⟨S, h⟩
theorem cellOf_some {m : Bool} {t : Nat} {xs : List (Ty t)} {i o : Nat} {a : AV Ty} (hi : i < xs.length) (h : cellOf E m t xs i o = a) (ha : a ≠ .dead) : ∃ x, xs[i]? = some x ∧ ((E.cod t).enc m x)[o]? = some a := by
  unfold cellOf at h
  rw [getD_of (List.getElem?_eq_getElem hi)] at h
  refine ⟨_, List.getElem?_eq_getElem hi, ?_⟩
  cases e : ((E.cod t).enc m xs[i])[o]? with
  | none => rw [List.getD_eq_getElem?_getD, e] at h; exact absurd h.symm ha
  | some a' => rw [List.getD_eq_getElem?_getD, e] at h; exact congrArg some h
theorem Loc.snoc : ∀ {p : Path} {m : Bool} {v : Value} {t : Nat} {xs : List (Ty t)} {b off c : Nat} {row : Row Ty} {i o : Nat} {x : Ty row.t} {t' : Nat} {ys : List (Ty t')} {v' : Value},
    Loc E w m v t xs p (.slice (some ⟨b, off, none⟩) row.xs.length c) row → row.xs[i]? = some x → ((E.cod row.t).enc m x)[o]? = some (.sl true t' ys) → w.cell? ⟨b, off + (i * szOf E row.t + o), none⟩ = some v' →
    Loc E w m v t xs (p ++ [(i, o)]) v' ⟨t', ys⟩
  | [], m, v, t, xs, b, off, c, row, i, o, x, t', ys, v', ⟨h1, h2⟩, h3, h4, h5 => by
    subst h2
    exact ⟨b, off, c, x, t', ys, v', h1.symm, h3, h4, h5, rfl, rfl⟩
  | (i', o') :: p, m, v, t, xs, b, off, c, row, i, o, x, t', ys, v', ⟨b1, off1, c1, x1, t1, ys1, v1, e1, e2, e3, e4, h⟩, h3, h4, h5 =>
    ⟨b1, off1, c1, x1, t1, ys1, v1, e1, e2, e3, e4, Loc.snoc h h3 h4 h5⟩
/-- One cell, read through a pointer into what is owned. -/
theorem seen_ok (G : Good E) (H : HRel E F w hp vals sets) {r : Nat} {p : Path} {R : Root Ty} {b off c : Nat} {row : Row Ty} (h1 : root hp r = some R) (h2 : Loc E w R.m (vals r) R.t R.xs p (.slice (some ⟨b, off, none⟩) row.xs.length c) row)
    {i o : Nat} (hi : i < row.xs.length) {a : AV Ty} (h : (seenT r p i o (cellOf E R.m row.t row.xs i o)).val = some a) : ∃ v, w.cell? ⟨b, off + (i * szOf E row.t + o), none⟩ = some v ∧ VRep E F w hp vals v a := by
  obtain ⟨S, hO⟩ := H.at G h1 h2
  rcases hO.inv with ⟨⟨A, e⟩, e2, _⟩ | ⟨b', off', c', g, B, e, O⟩
  · rw [e2] at hi; exact absurd hi (by simp)
  · injection e with e1 e2 e3
    injection e1 with e1
    injection e1 with e1 e4
    subst e1 e4
    have key : ∀ a', cellOf E R.m row.t row.xs i o = a' → a' ≠ .dead → ∃ x, row.xs[i]? = some x ∧ ((E.cod row.t).enc R.m x)[o]? = some a' := fun a' => cellOf_some hi
    cases hc : cellOf E R.m row.t row.xs i o with
    | v x =>
      rw [hc] at h; cases h
      obtain ⟨y, k1, k2⟩ := key _ hc (by simp)
      exact ⟨_, O.cell i y o _ k1 k2, .rep _ _ (O.rep i y o _ k1 k2 (fun h => h))⟩
    | sl q t ys =>
      rw [hc] at h
      obtain ⟨y, k1, k2⟩ := key _ hc (by simp)
      cases q with
      | true =>
        cases h
        refine ⟨_, O.cell i y o _ k1 k2, .ref r _ none false _ R _ ⟨t, ys⟩ h1 (h2.snoc k1 k2 (O.cell i y o _ k1 k2)) ⟨rfl, rfl⟩⟩
      | false =>
        cases h
        exact ⟨_, O.cell i y o _ k1 k2, .rep _ _ (O.rep i y o _ k1 k2 (fun h => h))⟩
    | ref r' p' vw full => rw [hc] at h; cases h
    | ptr r' p' i' o' => rw [hc] at h; cases h
    | rp t' xs' i' o' => rw [hc] at h; cases h
    | box m' t' x' => rw [hc] at h; cases h
    | agg cs => rw [hc] at h; cases h
    | tup cs => rw [hc] at h; cases h
    | ext r' p' t' xs' => rw [hc] at h; cases h
    | dead => rw [hc] at h; cases h
/-- One cell, read through a pointer into what is frozen. -/
theorem seenF_ok {t : Nat} {xs : List (Ty t)} {b off : Nat} {g : Nat → Nat → Value}
    (hc : ∀ (i : Nat) x (o : Nat) a, xs[i]? = some x → ((E.cod t).enc false x)[o]? = some a → w.cell? ⟨b, off + (i * szOf E t + o), none⟩ = some (g i o) ∧ F b (off + (i * szOf E t + o)))
    (hr : ∀ (i : Nat) x (o : Nat) a, xs[i]? = some x → ((E.cod t).enc false x)[o]? = some a → Rep E F w (g i o) a)
    {r : Nat} {p : Path} {i o : Nat} (G : Good E) (hi : i < xs.length) {a : AV Ty} (h : (seenT r p i o (cellOf E false t xs i o)).val = some a) : ∃ v, w.cell? ⟨b, off + (i * szOf E t + o), none⟩ = some v ∧ VRep E F w hp vals v a := by
  have key : ∀ a', cellOf E false t xs i o = a' → a' ≠ .dead → ∃ x, xs[i]? = some x ∧ ((E.cod t).enc false x)[o]? = some a' := fun a' => cellOf_some hi
  cases e : cellOf E false t xs i o with
  | v x =>
    rw [e] at h; cases h
    obtain ⟨y, k1, k2⟩ := key _ e (by simp)
    exact ⟨_, (hc i y o _ k1 k2).1, .rep _ _ (hr i y o _ k1 k2)⟩
  | sl q t ys =>
    rw [e] at h
    obtain ⟨y, k1, k2⟩ := key _ e (by simp)
    cases q with
    | true => exact (G.frozen k2).elim
    | false =>
      cases h
      exact ⟨_, (hc i y o _ k1 k2).1, .rep _ _ (hr i y o _ k1 k2)⟩
  | ref r' p' vw full => rw [e] at h; cases h
  | ptr r' p' i' o' => rw [e] at h; cases h
  | rp t' xs' i' o' => rw [e] at h; cases h
  | box m' t' x' => rw [e] at h; cases h
  | agg cs => rw [e] at h; cases h
  | tup cs => rw [e] at h; cases h
  | ext r' p' t' xs' => rw [e] at h; cases h
  | dead => rw [e] at h; cases h
/-- Several cells in a row. -/
theorem cells_ok {r : Nat} {p : Path} {m : Bool} {t : Nat} {xs : List (Ty t)} {i b base : Nat} (hs : ∀ o a, (seenT r p i o (cellOf E m t xs i o)).val = some a → ∃ v, w.cell? ⟨b, base + o, none⟩ = some v ∧ VRep E F w hp vals v a) :
    ∀ (n o : Nat) (l : List (AV Ty)), (cellsT E r p m t xs i o n).val = some l → ∃ vs : List Value, vs.length = n ∧ (∀ k, k < n → ∃ v, vs[k]? = some v ∧ w.cell? ⟨b, base + (o + k), none⟩ = some v) ∧ l.length = n ∧
      ∀ (k : Nat) v a, vs[k]? = some v → l[k]? = some a → VRep E F w hp vals v a
  | 0, o, l, h => by
    cases h
    exact ⟨[], rfl, fun k hk => absurd hk (by omega), rfl, fun k v a h => by simp at h⟩
  | n + 1, o, l, h => by
    unfold cellsT at h
    obtain ⟨a, h1, h2⟩ := (T.val_bind _ _).1 h
    obtain ⟨l', h3, h4⟩ := (T.val_bind _ _).1 h2
    cases h4
    obtain ⟨v, k1, k2⟩ := hs o a h1
    obtain ⟨vs, q1, q2, q3, q4⟩ := cells_ok hs n (o + 1) l' h3
    refine ⟨v :: vs, by simp [q1], fun k hk => ?_, by simp [q3], fun k v' a' e1 e2 => ?_⟩
    · cases k with
      | zero => exact ⟨v, rfl, k1⟩
      | succ k =>
        obtain ⟨v', e1, e2⟩ := q2 k (by omega)
        exact ⟨v', by simpa using e1, by rw [show o + (k + 1) = o + 1 + k by omega]; exact e2⟩
    · cases k with
      | zero => cases e1; cases e2; exact k2
      | succ k => exact q4 k v' a' (by simpa using e1) (by simpa using e2)
theorem loadCells_ok {P : Program} {b base : Nat} {vs : List Value} : ∀ (n i : Nat) (acc : Array Value), (∀ k, k < n → ∃ v, vs[k]? = some v ∧ w.cell? ⟨b, base + (i + k), none⟩ = some v) → vs.length = n →
    (loadCellsFrom ⟨b, base, none⟩ i n acc).run P w = .ok (acc ++ vs.toArray) w := by
  intro n
  induction n generalizing vs with
  | zero =>
    intro i acc h hl
    have : vs = [] := List.length_eq_zero_iff.1 hl
    subst this
    simp [loadCellsFrom, Pure.pure, Sem.run]
  | succ n ih =>
    intro i acc h hl
    cases vs with
    | nil => simp at hl
    | cons v vs =>
      obtain ⟨v', e1, e2⟩ := h 0 (by omega)
      cases e1
      unfold loadCellsFrom
      simp only [load, Bind.bind, Sem.bind, Sem.run, addr_add]
      rw [show base + i = base + (i + 0) by omega, e2]
      simp only
      rw [ih (vs := vs) (i + 1) (acc.push v) (fun k hk => ?_) (by simpa using hl)]
      · congr 1
        apply Array.ext'
        simp
      · obtain ⟨v'', e3, e4⟩ := h (k + 1) (by omega)
        exact ⟨v'', by simpa using e3, by rw [show i + 1 + k = i + (k + 1) by omega]; exact e4⟩
end
end Go.Proofs.Ytnibdgjlbhdmfaa.Ev
