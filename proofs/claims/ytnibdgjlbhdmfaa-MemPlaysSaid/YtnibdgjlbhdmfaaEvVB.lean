/- A row stored back to its own place inside a root. -/
import Derived.Test.YtnibdgjlbhdmfaaEvVA
namespace Go.Proofs.Ytnibdgjlbhdmfaa.Ev
open Go
set_option linter.unusedVariables false
set_option linter.unusedSimpArgs false
section
variable {Ty : Nat → Type} (E : Tb Ty)
def eqP : Path → Path → Bool
  | [], [] => true
  | (a, b) :: p, (c, d) :: q => match Nat.beq a c && Nat.beq b d with
    | true => eqP p q
    | false => false
  | _, _ => false
theorem eqP_eq : ∀ {p q : Path}, eqP p q = true → p = q
  | [], [], _ => rfl
  | [], _ :: _, h => by cases h
  | _ :: _, [], h => by cases h
  | (a, b) :: p, (c, d) :: q, h => by
    unfold eqP at h
    split at h
    · rename_i e
      rw [Bool.and_eq_true] at e
      rw [Nat.eq_of_beq_eq_true e.1, Nat.eq_of_beq_eq_true e.2, eqP_eq h]
    · cases h
/-- The row that a value makes of the place that it came from. -/
def newRow (r : Nat) (q : Path) (t : Nat) (ys : List (Ty t)) : AV Ty → Option (List (Ty t))
  | .ext r' q' t' zs => match Nat.beq r r' && eqP q q' with
    | true => castL t' t zs
    | false => none
  | .ref r' q' vw _ => match Nat.beq r r' && eqP q q' with
    | true => some (view ys vw)
    | false => none
  | _ => none
def placeT (hp : Heap Ty) (i : TI) (addr a : AV Ty) : Option (EffR Ty) := match addr with
  | .ptr r p k o => match root hp r with
    | some R => match nav E R.m R.t R.xs p with
      | some row => match cellOf E R.m row.t row.xs k o, Nat.beq i.sz 1 with
        | .sl true t ys, true => match newRow r (p ++ [(k, o)]) t ys a with
          | some zs => match upd E R.m R.t R.xs p (fun t' xs => setCells E R.m t' xs k o [.sl true t zs]) with
            | some xs' => some (.dead, hp.set r (some ⟨R.t, R.m, xs'⟩), [(r, p.length + 1)])
            | none => none
          | none => none
        | _, _ => none
      | none => none
    | none => none
  | _ => none
variable {E}
variable {X : Set2} {W0 : World} {F F' : Set2} {w w' : World} {hp hp' : Heap Ty} {vals vals' : Nat → Value} {sets sets' : Nat → Set2} {P : Program} {ρ : Operand → Value}
theorem place_eff (K : TbOk E P) (G : Good E) (I : Inv E X W0 F w hp vals sets) {t : Nat} {i : TI} (hi : E.ti t = some i) (hz : i.sz = 1) {x y : Operand} {r k oo : Nat} {p : Path} (hx : VRep E F w hp vals (ρ x) (.ptr r p k oo)) {R : Root Ty} {row : Row Ty} (hR : root hp r = some R) (hnav : nav E R.m R.t R.xs p = some row)
    {t1 : Nat} {ys1 zs : List (Ty t1)} (hcell : cellOf E R.m row.t row.xs k oo = .sl true t1 ys1) {xs' : List (Ty R.t)} (hupd : upd E R.m R.t R.xs p (fun t xs => setCells E R.m t xs k oo [.sl true t1 zs]) = some xs')
    (hv : ∀ u S', Loc E w R.m (vals r) R.t R.xs (p ++ [(k, oo)]) u ⟨t1, ys1⟩ → Own E F w R.m u t1 ys1 S' → ∃ S1, Own E F w R.m (ρ y) t1 zs S1 ∧ ∀ b j, S1 b j → S' b j ∨ ((∀ q Q, root hp q = some Q → ¬ sets q b j) ∧ (X b j ∨ W0.heap.size ≤ b)))
    (o : Oper) (ho : o.op = .store t x y) : EffOk E P ρ o X W0 F w hp vals (.dead, hp.set r (some ⟨R.t, R.m, xs'⟩), [(r, p.length + 1)]) := by
  obtain ⟨R2, b, off, c, row2, h1, h2, h3, hxv⟩ := hx.ptr'
  rw [hR] at h1
  cases h1
  have : row = row2 := Option.some.inj (hnav.symm.trans h2.nav)
  subst this
  obtain ⟨x0, hx0, ha0⟩ := cellOf_some h3 hcell (by simp)
  have hOr := I.H.own r R hR
  obtain ⟨S', hrow, hsub, hrep⟩ := focus G p hOr h2
  rcases hrow.inv with ⟨⟨A, e⟩, e2, _⟩ | ⟨b', off', c', g, B, e, O⟩
  · rw [e2] at h3; exact absurd h3 (by simp)
  · injection e with q1 q2 q3
    injection q1 with q1
    injection q1 with q1 q4
    subst q1 q4 q3
    obtain ⟨S1, hS1, hS1s⟩ := hv (g k oo) (B k oo) (h2.snoc hx0 ha0 (O.cell k x0 oo _ hx0 ha0)) (O.own k x0 oo t1 ys1 hx0 ha0)
    obtain ⟨A, n, hyv⟩ := hS1.head
    have hcl : (ρ y).cells.toList = [ρ y] := by rw [hyv]; rfl
    have hone : oneC (ρ y) = true := by rw [hyv]; rfl
    have f : Fresh E F w R.m [ρ y] [.sl true t1 zs] (fun kk => if kk = 0 then S1 else fun _ _ => False) := by
      refine ⟨rfl, fun v hv => ?_, fun kk v a e1 e2 e3 => ?_, fun kk v t' ys e1 e2 => ?_, fun kk kk' b j q1 q2 => ?_, fun kk b j q => ?_⟩
      · simp at hv; subst hv; exact hone
      · cases kk with
        | zero => cases e2; exact absurd trivial e3
        | succ kk => simp at e2
      · cases kk with
        | zero => cases e1; cases e2; exact hS1
        | succ kk => simp at e2
      · by_cases c1 : kk = 0 <;> by_cases c2 : kk' = 0
        · rw [c1, c2]
        · simp only [if_neg c2] at q2
        · simp only [if_neg c1] at q1
        · simp only [if_neg c1] at q1
      · by_cases c1 : kk = 0
        · subst c1; exact ⟨t1, zs, rfl⟩
        · simp only [if_neg c1] at q
    have hS1r : ∀ b' j, S1 b' j → S' b' j → B k oo b' j := fun b' j h hs => by
      rcases hS1s b' j h with h' | ⟨h', _⟩
      · exact h'
      · exact absurd (hsub _ _ hs) (h' r R hR)
    have hoz : oo + 1 ≤ szOf E row.t := by have := get_lt ha0; rw [G.len] at this; exact this
    have hbase : k * szOf E row.t + oo < c * szOf E row.t := lt_cells h3 O.le hoz
    obtain ⟨w', hrun, hW⟩ := storeCells_ok (P := P) (b := b) (base := off + (k * szOf E row.t + oo)) [ρ y] 0 w (fun kk hk => by
      have hk0 : kk = 0 := by simp at hk; exact hk
      subst hk0
      have := O.cap (k * szOf E row.t + oo) hbase
      exact ⟨this.1, this.2.1⟩) f.one
    rw [Nat.add_zero] at hW
    have hin : ∀ j, off + (k * szOf E row.t + oo) ≤ j → j < off + (k * szOf E row.t + oo) + [ρ y].length → S' b j := by
      intro j j1 j2
      simp only [List.length_cons, List.length_nil] at j2
      have := O.mem (j := j - off) (by omega)
      rwa [show off + (j - off) = j by omega] at this
    have hfrow : ∃ ys', setCells E R.m row.t row.xs k oo [.sl true t1 zs] = some ys' := by
      have : ∀ (p : Path) (v : Value) (t : Nat) (xs xs' : List (Ty t)) (u : Value) (rw_ : Row Ty), Loc E w R.m v t xs p u rw_ → upd E R.m t xs p (fun t xs => setCells E R.m t xs k oo [.sl true t1 zs]) = some xs' → ∃ ys', setCells E R.m rw_.t rw_.xs k oo [.sl true t1 zs] = some ys' := by
        intro p
        induction p with
        | nil => intro v t xs xs' u rw_ hl hu; obtain ⟨rfl, rfl⟩ := hl; exact ⟨xs', hu⟩
        | cons s p ih =>
          intro v t xs xs' u rw_ hl hu
          obtain ⟨b, off, c, x, t', ys, v', _, g2, g3, _, g5⟩ := hl
          unfold upd at hu
          rw [cellOf_of g2 g3] at hu
          simp only at hu
          split at hu
          · rename_i ys1 e1; exact ih _ _ _ _ _ _ g5 e1
          · cases hu
      exact this p _ _ _ _ _ _ h2 hupd
    obtain ⟨ys', hys⟩ := hfrow
    obtain ⟨x1, hxs1, hx1⟩ := setCells_inv G hx0 hys
    subst hxs1
    have hput := O.put G hx0 f hW hoz hx1 I.fb (fun kk b' j hb hs => by
      by_cases c1 : kk = 0
      · simp only [if_pos c1] at hb
        exact ⟨oo, Nat.le_refl _, by simp, hS1r _ _ hb hs⟩
      · simp only [if_neg c1] at hb)
    have hown := hput.toOwn
    rw [List.length_set] at hown
    have agF : ∀ b' j, F b' j → w'.cell? ⟨b', j, none⟩ = w.cell? ⟨b', j, none⟩ := hW.agreeF (fun j h1 h2 h => ((hrow.free b j (hin j h1 h2)).2.2 h))
    obtain ⟨hO', hlen'⟩ := hrep w' (row.xs.set k x1) _ _ xs' hown List.length_set
      (fun b' j hs => ⟨hW.out _ _ (fun ⟨e1, e2, e3⟩ => hs.2 (e1 ▸ hin j e2 e3)), hW.fro _ _⟩) agF
      (fun b' j h3 hs => by
        rcases h3 with h3 | ⟨i2, o2, h3⟩
        · exact (O.iff _ _).2 (.inl h3)
        · split at h3
          · by_cases c1 : o2 - oo = 0
            · simp only [if_pos c1] at h3
              rcases hS1s _ _ h3 with h' | ⟨h', _⟩
              · exact O.sub h'
              · exact absurd hs (h' r R hR)
            · simp only [if_neg c1] at h3
          · exact O.sub h3) hys hupd
    have I' := set_ok G I (Less.refl F sets hp) I.H (R' := ⟨R.t, R.m, xs'⟩) hR hW (fun j h1 h2 => hsub _ _ (hin j h1 h2)) hO' (fun b' j hs => by
      rcases hs with hs | hs
      · exact .inl hs.1
      · rcases hs with hs | ⟨i2, o2, hs⟩
        · exact .inl (hsub _ _ ((O.iff _ _).2 (.inl hs)))
        · split at hs
          · by_cases c1 : o2 - oo = 0
            · simp only [if_pos c1] at hs
              rcases hS1s _ _ hs with h' | h'
              · exact .inl (hsub _ _ (O.sub h'))
              · exact .inr (.inr h')
            · simp only [if_neg c1] at hs
          · exact .inl (hsub _ _ (O.sub hs)))
    refine ⟨.skip, undef, w', F, _, _, ?_, .inr ⟨rfl, rfl⟩, I', .dead _, fun u av hu => ?_, fun j hj => .inr (by by_cases e : j = r <;> simp [e]), Grow.refl _ _ _, fun _ _ _ _ e => by cases e⟩
    · unfold execOp
      rw [ho]
      obtain ⟨j, hj1, hj2, _⟩ := K.info t i hi
      have hsz : ¬ ((ρ y).cells.size ≠ j.size) := by
        have : (ρ y).cells.size = 1 := by rw [← Array.length_toList, hcl]; rfl
        omega
      have hst : (Instr.storeAt t (ρ x) (ρ y)).run P w = .ok () w' := by
        rw [hxv]
        simp only [Instr.storeAt, Instr.sureAddr, storeVar, Pure.pure, Bind.bind, Sem.bind]
        rw [run_sizeOf hj1]
        rw [if_neg hsz, hcl]
        exact hrun
      simp only
      rw [Sem.run_bind, hst]
      rfl
    · have agS : ∀ i' Ri b' j, i' ≠ r → root hp i' = some Ri → sets i' b' j → w'.cell? ⟨b', j, none⟩ = w.cell? ⟨b', j, none⟩ := by
        intro i' Ri b' j hne hi' hs
        refine hW.out _ _ (fun ⟨e1, e2, e3⟩ => hne (I.H.dj _ _ _ _ hi' hR b' j hs (e1 ▸ hsub _ _ (hin j e2 e3))))
      have hlt := root_lt hR
      refine survive (fun b j h => ⟨h, agF _ _ h⟩) (fun i' Ri q h1 hh => ?_) hu
      by_cases e : i' = r
      · subst e
        rw [hR] at h1
        cases h1
        refine ⟨⟨R.t, R.m, xs'⟩, by rw [root_set, if_pos rfl, if_pos hlt], fun u2 row2 hl => ?_⟩
        simp only [if_true]
        refine Loc.upd (C := fun b' j => b' = b ∧ off + (k * szOf E row.t + oo) ≤ j ∧ j < off + (k * szOf E row.t + oo) + 1) G p hOr h2
          (fun b' j hc => ⟨off, c, by rw [hc.1], by omega, by omega⟩)
          (fun b' j hs hc => hW.out _ _ (fun h => hc (by simpa using h))) hupd hys List.length_set q hl (.inl ?_)
        have := hit_mem hh (n := p.length + 1) (by simp)
        omega
      · exact survive_root (hp' := hp.set r (some ⟨R.t, R.m, xs'⟩)) (vals' := fun i => if i = r then vals r else vals i) G I.H h1 (by rw [root_set, if_neg (fun h => e h.symm)]; exact h1) (if_neg e) (fun b' j s => agS i' Ri b' j e h1 s)
theorem place_ok (K : TbOk E P) (G : Good E) (I : Inv E X W0 F w hp vals sets) {t : Nat} {i : TI} (hi : E.ti t = some i) {x y : Operand} {addr a : AV Ty} (hx : VRep E F w hp vals (ρ x) addr) (hy : VRep E F w hp vals (ρ y) a)
    (hy2 : ∀ r p t xs, a = .ext r p t xs → OvOk E X W0 F w hp vals sets (ρ y) r p t xs) {res : EffR Ty} (h : placeT E hp i addr a = some res) (o : Oper) (ho : o.op = .store t x y) : EffOk E P ρ o X W0 F w hp vals res := by
  unfold placeT at h
  split at h
  · rename_i r p k oo
    split at h
    · rename_i R hR
      split at h
      · rename_i row hnav
        split at h
        · rename_i t1 ys1 hcell hz
          split at h
          · rename_i zs hzs
            split at h
            · rename_i xs' hupd
              cases h
              refine place_eff K G I hi (Nat.eq_of_beq_eq_true hz) hx hR hnav hcell hupd (fun u S' hl hO => ?_) o ho
              unfold newRow at hzs
              split at hzs
              · rename_i r' q' t' zs'
                split at hzs
                · rename_i e
                  rw [Bool.and_eq_true] at e
                  have e1 := Nat.eq_of_beq_eq_true e.1
                  have e2 := eqP_eq e.2
                  subst e1
                  obtain ⟨e3, rfl⟩ := castL_eq hzs
                  subst e3
                  obtain ⟨R2, u2, ys, S2, S1, k1, k2, k3, k4, k5, k6⟩ := hy2 _ _ _ _ rfl
                  rw [hR] at k1
                  cases k1
                  rw [← e2] at k2
                  obtain ⟨rfl, e4⟩ := hl.det k2
                  cases e4
                  refine ⟨S1, k5, fun b j hs => (k6 b j hs).imp (fun hs => ?_) id⟩
                  exact k3.uniq hO b j hs
                · cases hzs
              · rename_i r' q' vw f
                split at hzs
                · rename_i e
                  rw [Bool.and_eq_true] at e
                  have e1 := Nat.eq_of_beq_eq_true e.1
                  have e2 := eqP_eq e.2
                  subst e1
                  cases hzs
                  obtain ⟨R2, u2, row2, k1, k2, k3⟩ := hy.ref'
                  rw [hR] at k1
                  cases k1
                  rw [← e2] at k2
                  obtain ⟨rfl, e4⟩ := hl.det k2
                  subst e4
                  obtain ⟨S1, q1, q2⟩ := hO.view G k3
                  exact ⟨S1, q1, fun b j hs => .inl (q2 b j hs)⟩
                · cases hzs
              · cases hzs
            · cases h
          · cases h
        · cases h
      · cases h
    · cases h
  · cases h
end
end Go.Proofs.Ytnibdgjlbhdmfaa.Ev
