/- append to a row that stands inside a root. -/
import Derived.Test.YtnibdgjlbhdmfaaEvVB
namespace Go.Proofs.Ytnibdgjlbhdmfaa.Ev
open Go
set_option linter.unusedVariables false
set_option linter.unusedSimpArgs false
section
variable {Ty : Nat → Type} (E : Tb Ty)
def appX (hp : Heap Ty) (ei : TI) (r : Nat) (p : Path) (y : AV Ty) : T (EffR Ty) := match root hp r with
  | some R => match nav E R.m R.t R.xs p with
    | some row => match Nat.beq (szOf E row.t) ei.sz, srcA E R.m row.t hp y with
      | true, some (ys, hp1, ks) => match root hp1 r with
        | some _ => .ite (row.xs.length + ys.length + 1 ≤ 549755813888 ∧ (row.xs.length + ys.length + 1) * ei.bytes ≤ 549755813888) inferInstance (.ret (.ext r p row.t (row.xs ++ ys), hp1, ks)) .fail
        | none => .fail
      | _, _ => .fail
    | none => .fail
  | none => .fail
variable {E}
variable {X : Set2} {W0 : World} {F F' : Set2} {w w' : World} {hp hp' : Heap Ty} {vals vals' : Nat → Value} {sets sets' : Nat → Set2} {P : Program} {ρ : Operand → Value}
theorem appX_eff (K : TbOk E P) (G : Good E) (I : Inv E X W0 F w hp vals sets) {T1 T2 e : Nat} {i1 i2 ei : TI} (hi1 : E.ti T1 = some i1) (hd1 : i1.d = .slice e) (hi2 : E.ti T2 = some i2) {e2 : Nat} (hd2 : i2.d = .slice e2) (hei : E.ti e = some ei) (hh : E.has e = true)
    {x y : Operand} {r : Nat} {p : Path} {fl : Bool} {ay : AV Ty} (hx : VRep E F w hp vals (ρ x) (.ref r p none fl)) (hy : VRep E F w hp vals (ρ y) ay) {res : EffR Ty} (h : (appX E hp ei r p ay).val = some res) (o : Oper) (c : Call) (ho : o.op = .call c) (hc : c.callee = .builtin .append)
    (ha : c.args.toList = [x, y]) (ht : c.argTypes.toList = [T1, T2]) : EffOk E P ρ o X W0 F w hp vals res := by
  obtain ⟨d1, u1, u2⟩ := K.und _ _ hi1
  rw [hd1] at u2
  have := DOk.slice u2
  subst this
  obtain ⟨d2, u3, u4⟩ := K.und _ _ hi2
  rw [hd2] at u4
  have := DOk.slice u4
  subst this
  obtain ⟨j0, hj1, hj2, hj3⟩ := K.info _ _ hei
  obtain ⟨hsz, j, z, hj4, hz1, hz2, _⟩ := K.zero _ _ hei hh
  have : j = j0 := Option.some.inj (hj4.symm.trans hj1)
  subst this
  unfold appX at h
  split at h
  · rename_i R hR
    split at h
    · rename_i row hnav
      split at h
      · rename_i ys hp1 ks hbz hsrc
        split at h
        · rename_i R1 hR1
          rcases ite_val h with ⟨⟨g1, g2⟩, h⟩ | ⟨_, h⟩
          · cases h
            have hbz := Nat.eq_of_beq_eq_true hbz
            obtain ⟨R2, u, row2, k1, k2, k3⟩ := hx.ref'
            rw [hR] at k1
            cases k1
            have : row = row2 := Option.some.inj (hnav.symm.trans k2.nav)
            subst this
            obtain ⟨k3, _⟩ := k3
            obtain ⟨vs, B, A, cc, e1, L, H1, hC, hf, hB⟩ := src_ok (P := P) G I.H hy hsrc
            have hRR : R1 = R := Option.some.inj ((L.sub _ _ hR1).symm.trans hR)
            subst hRR
            have hOr := I.H.own r R1 hR
            obtain ⟨S', hO, hsub, _⟩ := focus G p hOr k2
            have hl : Builtin.lenOf (ρ y) = Sem.pure ys.length := by rw [e1]; rfl
            have hBS : ∀ i o b j, B i o b j → ¬ sets r b j := by
              intro i o b j hb hs
              obtain ⟨r', R', q1, q2, q3⟩ := hB _ _ _ _ hb
              have := I.H.dj _ _ _ _ q1 hR b j q3 hs
              subst this
              rw [hR1] at q2; cases q2
            have hBfree : ∀ i o b j, B i o b j → (∀ q Q, root hp1 q = some Q → ¬ sets q b j) ∧ (X b j ∨ W0.heap.size ≤ b) := by
              intro i o b j hb
              obtain ⟨r', R', q1, q2, q3⟩ := hB _ _ _ _ hb
              refine ⟨fun q Q hq hs => ?_, I.lim _ _ _ _ q1 q3⟩
              have := I.H.dj _ _ _ _ q1 (L.sub _ _ hq) b j q3 hs
              subst this
              rw [q2] at hq; cases hq
            obtain ⟨vs0, B0, A0, c0, e0, hC0, hf0, hB0⟩ := hO.cont (P := P) G
            have surv : ∀ (w2 : World), (∀ b j, F b j → w2.cell? ⟨b, j, none⟩ = w.cell? ⟨b, j, none⟩) → (∀ i Ri b j, i ≠ r → root hp i = some Ri → sets i b j → w2.cell? ⟨b, j, none⟩ = w.cell? ⟨b, j, none⟩) →
                (∀ (q : Path) (u2 : Value) (row2 : Row Ty), Loc E w R1.m (vals r) R1.t R1.xs q u2 row2 → Loc E w2 R1.m (vals r) R1.t R1.xs q u2 row2) → ∀ u a, VRep E F w hp vals u a → VRep E F w2 hp1 vals u (killA ks a) := by
              intro w2 q1 q2 q3 u a hu
              refine survive (fun b j h => ⟨h, q1 _ _ h⟩) (fun i Ri p' h1 hh => ?_) hu
              by_cases e : i = r
              · subst e
                rw [hR] at h1
                cases h1
                exact ⟨R1, hR1, fun u row hl => ⟨row.xs, q3 _ _ _ hl, rfl⟩⟩
              · rcases L.out _ _ h1 with h3 | ⟨_, h3⟩
                · exact survive_root G I.H h1 h3 rfl (fun b j s => q2 i Ri b j e h1 s)
                · exact absurd (hit_mem hh h3) (by omega)
            by_cases hcap : row.xs.length + ys.length ≤ c0
            · -- in its own room
              have place : ∃ w' S3, (match A0 with | some a => (storeCells (a.add (row.xs.length * j.size)) vs 0).run P w = .ok () w' | none => w' = w) ∧ (∃ b base, Wrote w w' b base vs ∧ ∀ j, base ≤ j → j < base + vs.length → sets r b j) ∧
                  Own E F w' R1.m (.slice A0 (row.xs.length + ys.length) c0) row.t (row.xs ++ ys) S3 ∧ (∀ b j, S3 b j → S' b j ∨ ∃ i o, B i o b j) ∧ Own E F w' R1.m (vals r) R1.t R1.xs (sets r) ∧ Own E F w' R1.m u row.t row.xs S' ∧
                  (∀ (q : Path) (u2 : Value) (row2 : Row Ty), Loc E w R1.m (vals r) R1.t R1.xs q u2 row2 → Loc E w' R1.m (vals r) R1.t R1.xs q u2 row2) := by
                rcases hO.inv with ⟨⟨A', e'⟩, e'', hS'⟩ | ⟨b, off, c', g, B', e', O⟩
                · rw [e0] at e'
                  injection e' with q1 q2 q3
                  have hy0 : ys.length = 0 := by omega
                  have hys : ys = [] := List.length_eq_zero_iff.1 hy0
                  subst hys
                  have hvs : vs = [] := by have := hC.len; simp at this; exact this
                  subst hvs
                  have hn0 : row.xs.length = 0 := q2
                  refine ⟨w, S', ?_, ⟨0, 0, .nil _ _ _, fun j h1 h2 => by simp at h2⟩, ?_, fun b j h => absurd h (hS' b j), hOr, hO, fun q u2 row2 h => h⟩
                  · cases A0 with
                    | none => rfl
                    | some a => rfl
                  · rw [e'', q3]
                    exact .nil _ _ _ hS'
                · rw [e0] at e'
                  injection e' with q1 q2 q3
                  subst q3
                  have hroom : ∀ k, k < vs.length → row.xs.length * szOf E row.t + k < c0 * szOf E row.t := by
                    intro k hk
                    rw [hC.len] at hk
                    have : (row.xs.length + ys.length) * szOf E row.t ≤ c0 * szOf E row.t := Nat.mul_le_mul_right _ hcap
                    rw [Nat.add_mul] at this
                    omega
                  obtain ⟨w', hrun, hW⟩ := storeCells_ok (P := P) (b := b) (base := off + row.xs.length * szOf E row.t) vs 0 w (fun kk hk => by
                    have := O.cap (row.xs.length * szOf E row.t + kk) (hroom kk hk)
                    rw [show off + row.xs.length * szOf E row.t + (0 + kk) = off + (row.xs.length * szOf E row.t + kk) by omega]
                    exact ⟨this.1, this.2.1⟩) hC.one
                  rw [Nat.add_zero] at hW
                  obtain ⟨S3, hO3, hS3⟩ := O.extend G hC hcap hW (fun i o b' j hb hs => hBS _ _ _ _ hb (hsub _ _ hs))
                  have hWo : ∀ b' j, ¬ (b' = b ∧ off + row.xs.length * szOf E row.t ≤ j ∧ j < off + c0 * szOf E row.t) → w'.cell? ⟨b', j, none⟩ = w.cell? ⟨b', j, none⟩ := fun b' j h => hW.out _ _ (fun ⟨e1, e2, e3⟩ => h ⟨e1, e2, by
                    have := hroom (j - off - row.xs.length * szOf E row.t) (by omega)
                    omega⟩)
                  have hcp : ∀ j, off + row.xs.length * szOf E row.t ≤ j → j < off + c0 * szOf E row.t → ∃ v, w'.cell? ⟨b, j, none⟩ = some v := fun j j1 j2 => by
                    by_cases e : j < off + row.xs.length * szOf E row.t + vs.length
                    · have := hW.inn (j - (off + row.xs.length * szOf E row.t)) _ (List.getElem?_eq_getElem (by omega))
                      rw [show off + row.xs.length * szOf E row.t + (j - (off + row.xs.length * szOf E row.t)) = j by omega] at this
                      exact ⟨_, this⟩
                    · obtain ⟨⟨v, hv⟩, _⟩ := O.cap (j - off) (by omega)
                      rw [show off + (j - off) = j by omega] at hv
                      exact ⟨v, (hW.out _ _ (fun h => e h.2.2)).trans hv⟩
                  have hue : u = .slice (some ⟨b, off, none⟩) row.xs.length c0 := by rw [e0, q1]
                  have k2' := k2
                  rw [hue] at k2'
                  obtain ⟨s1, s2⟩ := Own.spare G hWo hW.fro hcp p hOr k2'
                  obtain ⟨s3, _⟩ := Own.spare G hWo hW.fro hcp [] hO ⟨hue.symm, rfl⟩
                  refine ⟨w', S3, ?_, ⟨b, _, hW, fun j h1 h2 => hsub _ _ ?_⟩, by rw [q1]; exact hO3, hS3, s1, s3, s2⟩
                  · rw [q1]
                    simp only [addr_add]
                    rw [hj2, ← hbz]
                    exact hrun
                  · have h3 := hroom (j - off - row.xs.length * szOf E row.t) (by omega)
                    have := O.mem (j := j - off) (by omega)
                    rwa [show off + (j - off) = j by omega] at this
              obtain ⟨w', S3, p1, ⟨b, base, hW, hin⟩, hO3, hS3, hOr', hO', hLoc⟩ := place
              have hrun := append_in (P := P) (w := w) (w' := w') (T := T1) (T2 := T2) (ty := o.type) (n0 := row.xs.length) (n1 := ys.length) (cap := c0) (base := A0) (x := ρ y) (vs := vs) u1 u3 rfl hj1 hl hcap (by rw [hj2, ← hbz]; exact hf w.drawn) p1
              have agF : ∀ b' j, F b' j → w'.cell? ⟨b', j, none⟩ = w.cell? ⟨b', j, none⟩ := hW.agreeF (Q := F) (fun j h1 h2 h => ((hOr.free _ _ (hin j h1 h2)).2.2 h))
              have agS : ∀ i Ri b' j, i ≠ r → root hp i = some Ri → sets i b' j → w'.cell? ⟨b', j, none⟩ = w.cell? ⟨b', j, none⟩ := fun i Ri b' j hne hi hs => hW.out _ _ (fun ⟨q1, q2, q3⟩ => hne (I.H.dj _ _ _ _ hi hR b' j hs (q1 ▸ hin j q2 q3)))
              have I' : Inv E X W0 F w' hp1 vals sets := by
                refine ⟨⟨fun i Ri hq => ?_, H1.dj⟩, fun b j h => by rw [hW.size]; exact I.fb _ _ h, fun i Ri b j h s => I.lim _ _ _ _ (L.sub _ _ h) s, I.keep.wrote hW (fun j h1 h2 => I.lim r R1 b j hR (hin j h1 h2))⟩
                by_cases e : i = r
                · subst e
                  rw [hR1] at hq
                  cases hq
                  exact hOr'
                · exact (H1.own i Ri hq).stable G (fun b j h => ⟨h, agF _ _ h⟩) (fun b j s => ⟨agS i Ri b j e (L.sub _ _ hq) s, hW.fro _ _⟩) (fun b j _ h => h)
              refine ⟨_, _, w', F, vals, sets, app_run ho hc ha ht (by rw [k3, e0]; exact hrun), .inl rfl, I', .ext _ _ _ _ _, surv _ agF agS hLoc, fun j hj => .inr rfl, Grow.refl _ _ _, fun r0 p0 t0 xs0 e => ?_⟩
              cases e
              exact ⟨R1, u, row.xs, S', S3, hR1, hLoc _ _ _ k2, hO', hsub, hO3, fun b j h => (hS3 b j h).imp id fun ⟨i, o, h⟩ => hBfree _ _ _ _ h⟩
            · -- in new room
              obtain ⟨cp, d, q1, q2⟩ := append_grow (P := P) (w := w) (T := T1) (T2 := T2) (ty := o.type) (n0 := row.xs.length) (n1 := ys.length) (cap := c0) (base := A0) (x := ρ y) (vs0 := vs0) (vs := vs) u1 u3 rfl hj1 hz1 hl hcap g1 (by rw [hj3]; exact g2)
                (fun d => by rw [hj2, ← hbz, ← e0]; exact hf0 d) (fun d => by rw [hj2, ← hbz]; exact hf d)
              have I2 := I.drew G d
              have hCC := Cont.append G hC0 hC (fun i o i' o' b j h1 h2 => hBS _ _ _ _ h2 (hsub _ _ (hB0 _ _ _ _ h1)))
              have hOn := alloc_own (w := { w with drawn := d }) (T := e) (c := cp) (cells := vs0.toArray ++ vs.toArray ++ Builtin.zeroCells z.cells (cp - (row.xs.length + ys.length))) G (hCC.stable (w := w) (w' := { w with drawn := d }) G (fun b j h => ⟨h, rfl⟩) (fun i o b j h => ⟨rfl, rfl, fun h => h⟩))
                (by simp only [Array.size_append, List.size_toArray, zeroCells_len, hC0.len, hC.len, hz2, ← hbz]; rw [← Nat.add_mul, ← Nat.add_mul]; congr 1; omega) (by simp only [List.length_append]; omega) (fun k v e => by
                  have hk := get_lt e
                  rw [Array.getElem?_append_left (by simpa using hk)]
                  have : (vs0.toArray ++ vs.toArray) = (vs0 ++ vs).toArray := by simp
                  rw [this]
                  simpa using e) I2.fb
              have agF : ∀ b j, F b j → (({ w with drawn := d } : World).alloc (.cells (vs0.toArray ++ vs.toArray ++ Builtin.zeroCells z.cells (cp - (row.xs.length + ys.length))) e)).cell? ⟨b, j, none⟩ = w.cell? ⟨b, j, none⟩ := fun b j h => cell_alloc_old (w := { w with drawn := d }) (I.fb _ _ h)
              have agS : ∀ i Ri b j, root hp i = some Ri → sets i b j → (({ w with drawn := d } : World).alloc (.cells (vs0.toArray ++ vs.toArray ++ Builtin.zeroCells z.cells (cp - (row.xs.length + ys.length))) e)).cell? ⟨b, j, none⟩ = w.cell? ⟨b, j, none⟩ ∧ (({ w with drawn := d } : World).alloc (.cells (vs0.toArray ++ vs.toArray ++ Builtin.zeroCells z.cells (cp - (row.xs.length + ys.length))) e)).frozen? ⟨b, j, none⟩ = w.frozen? ⟨b, j, none⟩ := fun i Ri b j h s => ⟨cell_alloc_old (w := { w with drawn := d }) (I.lt h s), frozen_alloc_old (w := { w with drawn := d }) (I.lt h s)⟩
              have I' : Inv E X W0 F (({ w with drawn := d } : World).alloc (.cells (vs0.toArray ++ vs.toArray ++ Builtin.zeroCells z.cells (cp - (row.xs.length + ys.length))) e)) hp1 vals sets := by
                refine ⟨⟨fun i Ri h => ?_, H1.dj⟩, fun b j h => ?_, fun i Ri b j h s => I.lim _ _ _ _ (L.sub _ _ h) s, I2.keep.alloc _⟩
                · exact (H1.own i Ri h).stable G (fun b j h => ⟨h, agF _ _ h⟩) (fun b j s => agS i Ri b j (L.sub _ _ h) s) (fun b j _ h => h)
                · rw [World.size_alloc]
                  have := I.fb _ _ h
                  exact Nat.lt_succ_of_lt this
              refine ⟨_, _, _, F, vals, sets, app_run ho hc ha ht (by rw [k3, e0]; exact q2), .inl rfl, I', .ext _ _ _ _ _, surv _ agF (fun i Ri b j _ hi hs => (agS i Ri b j hi hs).1) (fun q u2 row2 hl => hl.stable hOr G fun b j s => (agS r R1 b j hR s).1), fun j hj => .inr rfl, Grow.refl _ _ _, fun r0 p0 t0 xs0 e => ?_⟩
              cases e
              rw [List.length_append] at hOn
              refine ⟨R1, u, row.xs, S', _, hR1, k2.stable hOr G fun b j s => (agS r R1 b j hR s).1, hO.stable G (fun b j h => ⟨h, agF _ _ h⟩) (fun b j s => agS r R1 b j hR (hsub _ _ s)) (fun b j _ h => h), hsub, hOn, fun b j h => ?_⟩
              rcases h with h | ⟨i, o, h⟩
              · right
                refine ⟨fun q Q hq hs => ?_, .inr ?_⟩
                · have h1 := I.lt (L.sub _ _ hq) hs
                  have h2 : b = w.heap.size := h.1
                  omega
                · have := I.keep.size
                  have h2 : b = w.heap.size := h.1
                  omega
              · split at h
                · exact .inl (hB0 _ _ _ _ h)
                · exact .inr (hBfree _ _ _ _ h)
          · cases h
        · cases h
      · cases h
    · cases h
  · cases h
end
end Go.Proofs.Ytnibdgjlbhdmfaa.Ev
