/- A store into owned memory. -/
import Derived.Test.YtnibdgjlbhdmfaaEvN
namespace Go.Proofs.Ytnibdgjlbhdmfaa.Ev
open Go
set_option linter.unusedVariables false
set_option linter.unusedSimpArgs false
section
variable {Ty : Nat → Type} {E : Tb Ty}
variable {X : Set2} {W0 : World} {F F' : Set2} {w w' : World} {hp hp' : Heap Ty} {vals vals' : Nat → Value} {sets sets' : Nat → Set2} {P : Program} {ρ : Operand → Value}
theorem Wrote.agreeF {b base : Nat} {vs : List Value} (h : Wrote w w' b base vs) {Q : Set2} (hq : ∀ j, base ≤ j → j < base + vs.length → ¬ Q b j) : ∀ b' j, Q b' j → w'.cell? ⟨b', j, none⟩ = w.cell? ⟨b', j, none⟩ :=
  fun b' j hQ => h.out b' j (fun ⟨e1, e2, e3⟩ => hq j e2 e3 (e1 ▸ hQ))
/-- A root is put in a root's place, its memory written in one row's cells alone. -/
theorem set_ok (G : Good E) (I : Inv E X W0 F w hp vals sets) {F1 : Set2} {hp1 : Heap Ty} {ks : List (Nat × Nat)} (L : Less F F1 sets hp hp1 ks) (H1 : HRel E F1 w hp1 vals sets) {r : Nat} {R R' : Root Ty} (hr : root hp1 r = some R)
    {b base : Nat} {vs : List Value} (hW : Wrote w w' b base vs) (hin : ∀ j, base ≤ j → j < base + vs.length → sets r b j) {S : Set2} {v : Value} (hO : Own E F1 w' R'.m v R'.t R'.xs S)
    (hS : ∀ b j, S b j → sets r b j ∨ (∃ r' R'', root hp r' = some R'' ∧ root hp1 r' = none ∧ sets r' b j) ∨ ((∀ q Q, root hp q = some Q → ¬ sets q b j) ∧ (X b j ∨ W0.heap.size ≤ b))) :
    Inv E X W0 F1 w' (hp1.set r (some R')) (fun i => if i = r then v else vals i) (fun i => if i = r then S else sets i) := by
  have hlt := root_lt hr
  have hroot : ∀ i, root (hp1.set r (some R')) i = if r = i then some R' else root hp1 i := by
    intro i
    rw [root_set, if_pos hlt]
  have F1b : ∀ b j, F1 b j → b < w.heap.size := by
    intro b j h
    rcases L.fro b j h with h | ⟨r, R', h1, _, h2⟩
    · exact I.fb _ _ h
    · exact I.lt h1 h2
  have notF : ∀ b j, sets r b j → ¬ F1 b j := fun b j h => ((H1.own r R hr).free b j h).2.2
  have agF : ∀ b' j, F1 b' j → w'.cell? ⟨b', j, none⟩ = w.cell? ⟨b', j, none⟩ := hW.agreeF (fun j h1 h2 h => notF _ _ (hin j h1 h2) h)
  have sep : ∀ i Ri, i ≠ r → root hp1 i = some Ri → ∀ b j, S b j → sets i b j → False := by
    intro i Ri hne hi b j h1 h2
    rcases hS b j h1 with h | ⟨r', R'', q1, q2, q3⟩ | ⟨hn, _⟩
    · exact hne (H1.dj _ _ _ _ hi hr b j h2 h)
    · have := I.H.dj _ _ _ _ q1 (L.sub _ _ hi) b j q3 h2
      subst this
      rw [q2] at hi; cases hi
    · exact hn _ _ (L.sub _ _ hi) h2
  refine ⟨⟨fun i Ri h => ?_, fun i i' Ri Ri' h1 h2 b j s1 s2 => ?_⟩, fun b j h => by rw [hW.size]; exact F1b _ _ h, fun i Ri b j h s => ?_, I.keep.wrote hW (fun j h1 h2 => I.lim r R b j (L.sub _ _ hr) (hin j h1 h2))⟩
  · rw [hroot] at h
    by_cases e : i = r
    · subst e
      rw [if_pos rfl] at h
      cases h
      simpa using hO
    · rw [if_neg (fun h => e h.symm)] at h
      simp only [if_neg e]
      refine (H1.own i Ri h).stable G (fun b j h => ⟨h, agF _ _ h⟩) (fun b' j s => ⟨hW.agreeF (Q := sets i) (fun j h1 h2 h' => e (H1.dj _ _ _ _ h hr _ _ h' (hin j h1 h2))) _ _ s, hW.fro _ _⟩) (fun b j _ h => h)
  · rw [hroot] at h1 h2
    by_cases e1 : i = r <;> by_cases e2 : i' = r
    · rw [e1, e2]
    · simp only [if_pos e1] at s1; simp only [if_neg e2] at s2; rw [if_neg (fun h => e2 h.symm)] at h2; exact (sep _ _ e2 h2 _ _ s1 s2).elim
    · simp only [if_neg e1] at s1; simp only [if_pos e2] at s2; rw [if_neg (fun h => e1 h.symm)] at h1; exact (sep _ _ e1 h1 _ _ s2 s1).elim
    · simp only [if_neg e1] at s1; simp only [if_neg e2] at s2; rw [if_neg (fun h => e1 h.symm)] at h1; rw [if_neg (fun h => e2 h.symm)] at h2; exact H1.dj _ _ _ _ h1 h2 b j s1 s2
  · rw [hroot] at h
    by_cases e : i = r
    · simp only [if_pos e] at s
      rcases hS b j s with h' | ⟨r', R'', q1, q2, q3⟩ | ⟨_, hl⟩
      · exact I.lim r R b j (L.sub _ _ hr) h'
      · exact I.lim _ _ _ _ q1 q3
      · exact hl
    · simp only [if_neg e] at s
      rw [if_neg (fun h => e h.symm)] at h
      exact I.lim _ _ _ _ (L.sub _ _ h) s
theorem anyOwn_at {l : List (AV Ty)} {k : Nat} {t : Nat} {ys : List (Ty t)} (h : anyOwn l = false) : l[k]? ≠ some (AV.sl true t ys) := anyOwn_false h k t ys
theorem store_eff (K : TbOk E P) (G : Good E) (I : Inv E X W0 F w hp vals sets) {t : Nat} {i : TI} (hi : E.ti t = some i) {x y : Operand} {addr a : AV Ty} (hx : VRep E F w hp vals (ρ x) addr) (hy : VRep E F w hp vals (ρ y) a) {res : EffR Ty}
    (h : (storeT E hp i addr a).val = some res) (o : Oper) (ho : o.op = .store t x y) : EffOk E P ρ o X W0 F w hp vals res := by
  unfold storeT at h
  split at h
  · rename_i r p k oo
    split at h
    · rename_i R hR
      split at h
      · rename_i row hnav
        split at h
        · rename_i ds hds
          split at h
          · rename_i hz
            split at h
            · rename_i cs hp1 ks hcs
              split at h
              · rename_i R1 hR1
                split at h
                · rename_i xs' hupd
                  cases h
                  rw [Bool.and_eq_true] at hz
                  have z1 := Nat.eq_of_beq_eq_true hz.1
                  have z2 := Nat.le_of_ble_eq_true hz.2
                  obtain ⟨R2, b, off, c, row2, h1, h2, h3, hxv⟩ := hx.ptr'
                  rw [hR] at h1
                  cases h1
                  have : row = row2 := Option.some.inj (hnav.symm.trans h2.nav)
                  subst this
                  have hC := cellsOf_ok G I.H hy hds
                  obtain ⟨F1, Bn, H1, L, f, l, bn⟩ := toCells_ok G ds _ F hp hp1 ks cs _ I.H (fun _ _ h => h) (fun _ _ h => h) hC hcs
                  have e1 : R1 = R := Option.some.inj ((L.sub _ _ hR1).symm.trans hR) |>.symm ▸ rfl
                  subst e1
                  have hOr := H1.own r R1 hR1
                  obtain ⟨S', hrow, hsub, hrep⟩ := focus G p hOr h2
                  rcases hrow.inv with ⟨⟨A, e⟩, e2, _⟩ | ⟨b', off', c', g, B, e, O⟩
                  · rw [e2] at h3; exact absurd h3 (by simp)
                  · injection e with q1 q2 q3
                    injection q1 with q1
                    injection q1 with q1 q4
                    subst q1 q4 q3
                    obtain ⟨x0, hx0⟩ : ∃ x0, row.xs[k]? = some x0 := ⟨_, List.getElem?_eq_getElem h3⟩
                    have hlen : cs.length = ds.length := l
                    have hbase : ∀ kk, kk < cs.length → k * szOf E row.t + (oo + kk) < c * szOf E row.t := fun kk hk => lt_cells h3 O.le (by omega)
                    have hvl : (ρ y).cells.toList.length = cs.length := f.len
                    -- the stores run
                    obtain ⟨w', hrun, hW⟩ := storeCells_ok (P := P) (b := b) (base := off + (k * szOf E row.t + oo)) (ρ y).cells.toList 0 w (fun kk hk => by
                      have := O.cap (k * szOf E row.t + oo + kk) (by have := hbase kk (by omega); omega)
                      rw [show off + (k * szOf E row.t + oo) + (0 + kk) = off + (k * szOf E row.t + oo + kk) by omega]
                      exact ⟨this.1, this.2.1⟩) f.one
                    rw [Nat.add_zero] at hW
                    have F1b : ∀ b j, F1 b j → b < w.heap.size := by
                      intro b j h
                      rcases L.fro b j h with h | ⟨r, R', h1, _, h2⟩
                      · exact I.fb _ _ h
                      · exact I.lt h1 h2
                    have hin : ∀ j, off + (k * szOf E row.t + oo) ≤ j → j < off + (k * szOf E row.t + oo) + (ρ y).cells.toList.length → S' b j := by
                      intro j j1 j2
                      rw [hvl] at j2
                      have := hbase (j - off - k * szOf E row.t - oo) (by omega)
                      have := O.mem (j := j - off) (by omega)
                      rwa [show off + (j - off) = j by omega] at this
                    have hBnS : ∀ kk b' j, Bn kk b' j → ¬ sets r b' j := by
                      intro kk b' j hb hs
                      obtain ⟨_, r', R', q1, q2, q3⟩ := bn kk b' j hb
                      have := I.H.dj _ _ _ _ q1 hR b' j q3 hs
                      subst this
                      rw [hR1] at q2; cases q2
                    have hfrow : ∃ ys', setCells E R1.m row.t row.xs k oo cs = some ys' := by
                      have : ∀ (p : Path) (v : Value) (t : Nat) (xs xs' : List (Ty t)) (u : Value) (rw_ : Row Ty), Loc E w R1.m v t xs p u rw_ → upd E R1.m t xs p (fun t xs => setCells E R1.m t xs k oo cs) = some xs' → ∃ ys', setCells E R1.m rw_.t rw_.xs k oo cs = some ys' := by
                        intro p
                        induction p with
                        | nil => intro v t xs xs' u rw_ hl hu; obtain ⟨rfl, rfl⟩ := hl; exact ⟨xs', hu⟩
                        | cons s p ih =>
                          intro v t xs xs' u rw_ hl hu
                          obtain ⟨b, off, c, x, t', ys, v', _, g2, g3, _, g5⟩ := hl
                          unfold upd at hu
                          rw [cellOf_of g2 g3] at hu
                          simp only at hu
                          split at hu
                          · rename_i ys1 e1; exact ih _ _ _ _ _ _ g5 e1
                          · cases hu
                      exact this p _ _ _ _ _ _ h2 hupd
                    obtain ⟨ys', hys⟩ := hfrow
                    obtain ⟨x1, hxs1, hx1⟩ := setCells_inv G hx0 hys
                    subst hxs1
                    have hput := O.put G hx0 f hW (by omega) hx1 F1b (fun kk b' j hb hs => absurd (hsub _ _ hs) (hBnS kk b' j hb))
                    have hown := hput.toOwn
                    rw [List.length_set] at hown
                    have agF1 : ∀ b' j, F1 b' j → w'.cell? ⟨b', j, none⟩ = w.cell? ⟨b', j, none⟩ := hW.agreeF (fun j h1 h2 h => ((hrow.free b j (hin j h1 h2)).2.2 h))
                    obtain ⟨hO', hlen'⟩ := hrep w' (row.xs.set k x1) _ _ xs' hown List.length_set
                      (fun b' j hs => ⟨hW.out _ _ (fun ⟨e1, e2, e3⟩ => hs.2 (e1 ▸ hin j e2 e3)), hW.fro _ _⟩) agF1
                      (fun b' j h3 hs => by
                        rcases h3 with h3 | ⟨i2, o2, h3⟩
                        · exact (O.iff _ _).2 (.inl h3)
                        · split at h3
                          · exact absurd hs (hBnS _ _ _ h3)
                          · exact O.sub h3) hys hupd
                    have I' := set_ok G I L H1 (R' := ⟨R1.t, R1.m, xs'⟩) hR1 hW (fun j h1 h2 => hsub _ _ (hin j h1 h2)) hO' (fun b' j hs => by
                      rcases hs with hs | hs
                      · exact .inl hs.1
                      · rcases hs with hs | ⟨i2, o2, hs⟩
                        · exact .inl (hsub _ _ ((O.iff _ _).2 (.inl hs)))
                        · split at hs
                          · exact .inr (.inl (bn _ _ _ hs).2)
                          · exact .inl (hsub _ _ (O.sub hs)))
                    refine ⟨.skip, undef, w', F1, _, _, ?_, .inr ⟨rfl, rfl⟩, I', .dead _, fun u av hu => ?_, fun j hj => .inr (by by_cases e : j = r <;> simp [e]), L.grow I, fun _ _ _ _ e => by cases e⟩
                    · unfold execOp
                      rw [ho]
                      obtain ⟨j, hj1, hj2, _⟩ := K.info t i hi
                      have hsz : ¬ ((ρ y).cells.size ≠ j.size) := by
                        have : (ρ y).cells.size = cs.length := by simpa using hvl
                        omega
                      have hst : (Instr.storeAt t (ρ x) (ρ y)).run P w = .ok () w' := by
                        rw [hxv]
                        simp only [Instr.storeAt, Instr.sureAddr, storeVar, Pure.pure, Bind.bind, Sem.bind]
                        rw [run_sizeOf hj1]
                        rw [if_neg hsz]
                        exact hrun
                      simp only
                      rw [Sem.run_bind, hst]
                      rfl
                    · have hr0 : root hp r = some R1 := hR
                      have agS : ∀ i' Ri b' j, i' ≠ r → root hp i' = some Ri → sets i' b' j → w'.cell? ⟨b', j, none⟩ = w.cell? ⟨b', j, none⟩ := by
                        intro i' Ri b' j hne hi' hs
                        refine hW.out _ _ (fun ⟨e1, e2, e3⟩ => hne (I.H.dj _ _ _ _ hi' hr0 b' j hs (e1 ▸ hsub _ _ (hin j e2 e3))))
                      have hlt := root_lt hR1
                      have key : ∀ (ks' : List (Nat × Nat)), (∀ kk, kk ∈ ks → kk ∈ ks') → (∀ q : Path, hit ks' r q = false → q.length ≤ p.length ∨ (anyOwn cs = false ∧ anyOwn ((((E.cod row.t).enc R1.m (row.xs.getD k (E.cod row.t).zero)).drop oo).take cs.length) = false)) →
                          VRep E F1 w' (hp1.set r (some ⟨R1.t, R1.m, xs'⟩)) (fun i => if i = r then vals r else vals i) u (killA ks' av) := by
                        intro ks' hks hq
                        refine survive (fun b j h => ⟨L.inc _ _ h, agF1 _ _ (L.inc _ _ h)⟩) (fun i' Ri q h1 hh => ?_) hu
                        by_cases e : i' = r
                        · subst e
                          rw [hr0] at h1
                          cases h1
                          refine ⟨⟨R1.t, R1.m, xs'⟩, by rw [root_set, if_pos rfl, if_pos hlt], fun u2 row2 hl => ?_⟩
                          simp only [if_true]
                          refine Loc.upd (C := fun b' j => b' = b ∧ off + (k * szOf E row.t + oo) ≤ j ∧ j < off + (k * szOf E row.t + oo) + cs.length) G p hOr h2
                            (fun b' j hc => ⟨off, c, by rw [hc.1], by omega, by have := hbase (j - off - k * szOf E row.t - oo) (by omega); omega⟩)
                            (fun b' j hs hc => hW.out _ _ (fun h => hc (by rw [hvl] at h; exact h))) hupd hys List.length_set q hl ?_
                          rcases hq q hh with h | ⟨ha1, ha2⟩
                          · exact .inl h
                          · right
                            intro i2 o2 x2 t2 zs g1 g2
                            have hnot : ¬ (i2 = k ∧ oo ≤ o2 ∧ o2 < oo + cs.length) := by
                              rintro ⟨rfl, e1, e2⟩
                              rw [hx0] at g1
                              cases g1
                              rw [getD_of hx0] at ha2
                              refine anyOwn_at (k := o2 - oo) (t := t2) (ys := zs) ha2 ?_
                              rw [List.getElem?_take, if_pos (by omega), List.getElem?_drop, show oo + (o2 - oo) = o2 by omega]
                              exact g2
                            have hC' : ∀ b' off' c', Value.slice (some ⟨b, off, none⟩) row.xs.length c = .slice (some ⟨b', off', none⟩) row.xs.length c' → ¬ (b' = b ∧ off + (k * szOf E row.t + oo) ≤ off' + (i2 * szOf E row.t + o2) ∧ off' + (i2 * szOf E row.t + o2) < off + (k * szOf E row.t + oo) + cs.length) := by
                              intro b' off' c' e
                              injection e with e1
                              injection e1 with e1
                              injection e1 with e1 e2
                              subst e1 e2
                              rintro ⟨_, j1, j2⟩
                              have ho2 : o2 < szOf E row.t := by have := get_lt g2; rw [G.len] at this; exact this
                              have : i2 = k := by
                                rcases Nat.lt_trichotomy i2 k with h | h | h
                                · have : (i2 + 1) * szOf E row.t ≤ k * szOf E row.t := Nat.mul_le_mul_right _ h
                                  rw [Nat.succ_mul] at this
                                  omega
                                · exact h
                                · have : (k + 1) * szOf E row.t ≤ i2 * szOf E row.t := Nat.mul_le_mul_right _ h
                                  rw [Nat.succ_mul] at this
                                  omega
                              subst this
                              exact hnot ⟨rfl, by omega, by omega⟩
                            by_cases ei : i2 = k
                            · subst ei
                              rw [hx0] at g1
                              cases g1
                              refine ⟨x1, by rw [List.getElem?_set, if_pos rfl, if_pos h3], ?_, hC'⟩
                              have hl' := G.len row.t R1.m x0
                              have := get_lt g2
                              rw [hx1, List.append_assoc]
                              by_cases g3 : o2 < oo
                              · rw [List.getElem?_append_left (by simp; omega), List.getElem?_take, if_pos g3]; exact g2
                              · rw [List.getElem?_append_right (by simp; omega), List.getElem?_append_right (by simp; omega), List.getElem?_drop]
                                rw [show (((E.cod row.t).enc R1.m x0).take oo).length = oo by simp; omega]
                                rw [show oo + cs.length + (o2 - oo - cs.length) = o2 by omega]
                                exact g2
                            · exact ⟨x2, by rw [List.getElem?_set, if_neg (fun h => ei h.symm)]; exact g1, g2, hC'⟩
                        · rcases L.out _ _ h1 with h3' | ⟨_, h3'⟩
                          · exact survive_root (hp' := hp1.set r (some ⟨R1.t, R1.m, xs'⟩)) (vals' := fun i => if i = r then vals r else vals i) G I.H h1 (by rw [root_set, if_neg (fun h => e h.symm)]; exact h3') (if_neg e) (fun b' j s => agS i' Ri b' j e h1 s)
                          · exact absurd (hit_mem hh (hks _ h3')) (by omega)
                      simp only
                      split
                      · refine key _ (fun kk hkk => List.mem_cons_of_mem _ hkk) (fun q hq => .inl ?_)
                        have := hit_mem hq (n := p.length + 1) (by simp)
                        omega
                      · rename_i hany
                        rw [Bool.or_eq_false_iff] at hany
                        exact key _ (fun kk hkk => hkk) (fun q _ => .inr hany)
                · cases h
              · cases h
            · cases h
          · cases h
        · cases h
      · cases h
    · cases h
  · cases h
end
end Go.Proofs.Ytnibdgjlbhdmfaa.Ev
