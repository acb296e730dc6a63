/- append: the machine does the same. -/
import Derived.Test.YtnibdgjlbhdmfaaEvQ
namespace Go.Proofs.Ytnibdgjlbhdmfaa.Ev
open Go
set_option linter.unusedVariables false
set_option linter.unusedSimpArgs false
section
variable {Ty : Nat → Type} {E : Tb Ty}
variable {X : Set2} {W0 : World} {F F' : Set2} {w w' : World} {hp hp' : Heap Ty} {vals vals' : Nat → Value} {sets sets' : Nat → Set2} {P : Program} {ρ : Operand → Value}
theorem zeroCells_len {z : Array Value} {n : Nat} : (Builtin.zeroCells z n).size = n * z.size := by simp [Builtin.zeroCells]
theorem ref_new {F : Set2} {w : World} {vals : Nat → Value} {R : Root Ty} {v : Value} {hp' : Heap Ty} {n : Nat} (h1 : root hp' n = some R) (h2 : vals n = v) : VRep E F w hp' vals v (.ref n [] none false) :=
  .ref n [] none false v R v ⟨R.t, R.xs⟩ h1 ⟨h2.symm, rfl⟩ ⟨rfl, rfl⟩
/-- The call of append, its operands known. -/
theorem app_run {o : Oper} {c : Call} {T1 T2 : Nat} {x y : Operand} (ho : o.op = .call c) (hc : c.callee = .builtin .append) (ha : c.args.toList = [x, y]) (ht : c.argTypes.toList = [T1, T2]) {v : Value} {w' : World}
    (h : (Builtin.append_ #[T1, T2] o.type #[ρ x, ρ y]).run P w = .ok v w') : (execOp ρ o).run P w = .ok (.value v) w' := by
  have e1 := mem_args ha
  have e2 : c.argTypes = #[T1, T2] := by rw [← Array.toArray_toList (xs := c.argTypes), ht]
  refine builtin_run (s := Builtin.append_ c.argTypes o.type (c.args.map ρ)) ho hc (fun cs => rfl) ?_
  rw [e1, e2]
  simpa using h
theorem app_eff (K : TbOk E P) (G : Good E) (I : Inv E X W0 F w hp vals sets) {m : Bool} {T1 T2 e : Nat} {i1 i2 ei : TI} (hi1 : E.ti T1 = some i1) (hd1 : i1.d = .slice e) (hi2 : E.ti T2 = some i2) {e2 : Nat} (hd2 : i2.d = .slice e2) (hei : E.ti e = some ei) (hh : E.has e = true)
    {x y : Operand} {ax ay : AV Ty} (hx : VRep E F w hp vals (ρ x) ax) (hy : VRep E F w hp vals (ρ y) ay) {res : EffR Ty} (h : (appT E m hp e ei ax ay).val = some res) (o : Oper) (c : Call) (ho : o.op = .call c) (hc : c.callee = .builtin .append)
    (ha : c.args.toList = [x, y]) (ht : c.argTypes.toList = [T1, T2]) : EffOk E P ρ o X W0 F w hp vals res := by
  obtain ⟨d1, u1, u2⟩ := K.und _ _ hi1
  rw [hd1] at u2
  have := DOk.slice u2
  subst this
  obtain ⟨d2, u3, u4⟩ := K.und _ _ hi2
  rw [hd2] at u4
  have := DOk.slice u4
  subst this
  obtain ⟨j0, hj1, hj2, hj3⟩ := K.info _ _ hei
  obtain ⟨hsz, j, z, hj4, hz1, hz2, _⟩ := K.zero _ _ hei hh
  have : j = j0 := Option.some.inj (hj4.symm.trans hj1)
  subst this
  unfold appT at h
  split at h
  · -- nil
    split at h
    · rename_i ys hp1 ks hsrc
      rcases ite_val h with ⟨⟨g1, g2⟩, h⟩ | ⟨_, h⟩
      · cases h
        have hxv := hx.v
        obtain ⟨vs, B, A, cc, e1, L, H1, hC, hf, hB⟩ := src_ok (P := P) G I.H hy hsrc
        have hl : Builtin.lenOf (ρ y) = Sem.pure ys.length := by rw [e1]; rfl
        by_cases hz : ys.length = 0
        · have hys : ys = [] := List.length_eq_zero_iff.1 hz
          subst hys
          have hvs : vs = [] := by have := hC.len; simp at this; exact this
          subst hvs
          have hrun := append_in (P := P) (w := w) (w' := w) (T := T1) (T2 := T2) (ty := o.type) (n0 := 0) (n1 := 0) (cap := 0) (base := none) (x := ρ y) (vs := []) u1 u3 rfl hj1 hl (Nat.le_refl _) (by rw [hj2, ← hsz]; exact hf w.drawn) rfl
          refine ⟨_, _, w, F, fun r => if r = hp1.length then .slice none 0 0 else vals r, fun r => if r = hp1.length then fun _ _ => False else sets r, app_run ho hc ha ht (by rw [hxv]; exact hrun), .inl rfl, ?_, ref_new (by rw [root_push, if_pos rfl]) (if_pos rfl), ?_, fun j hj => .inr (if_neg (by rw [L.len]; exact Nat.ne_of_lt hj)), Grow.refl _ _ _, fun _ _ _ _ e => by cases e⟩
          · refine ⟨⟨fun r R h => ?_, fun r r' R R' h1 h2 b j s1 s2 => ?_⟩, I.fb, fun r R b j h s => ?_, I.keep⟩
            · rw [root_push] at h
              split at h
              · rename_i e; subst e; cases h; simpa using Own.nil none _ _ (fun _ _ h => h)
              · rename_i e; simp only [if_neg e]; exact H1.own r R h
            · rw [root_push] at h1 h2
              by_cases e1 : r = hp1.length
              · simp only [if_pos e1] at s1
              · by_cases e2 : r' = hp1.length
                · simp only [if_pos e2] at s2
                · simp only [if_neg e1] at s1 h1; simp only [if_neg e2] at s2 h2; exact H1.dj _ _ _ _ h1 h2 b j s1 s2
            · rw [root_push] at h
              by_cases e1 : r = hp1.length
              · simp only [if_pos e1] at s
              · simp only [if_neg e1] at s h; exact I.lim _ _ _ _ (L.sub _ _ h) s
          · intro u a hu
            refine survive (fun b j h => ⟨h, rfl⟩) (fun r R' p h1 h2 => ?_) hu
            have hlt := root_lt h1
            have hne : r ≠ hp1.length := by rw [L.len]; omega
            rcases L.out _ _ h1 with h3 | ⟨_, h3⟩
            · exact survive_root (hp' := hp1 ++ [some ⟨e, m, []⟩]) (vals' := fun r => if r = hp1.length then .slice none 0 0 else vals r) G I.H h1 (by rw [root_push, if_neg hne]; exact h3) (if_neg hne) (fun b j s => rfl)
            · exact absurd (hit_mem h2 h3) (by omega)
        · obtain ⟨cp, d, k1, k2⟩ := append_grow (P := P) (w := w) (T := T1) (T2 := T2) (ty := o.type) (n0 := 0) (n1 := ys.length) (cap := 0) (base := none) (x := ρ y) (vs0 := []) (vs := vs) u1 u3 rfl hj1 hz1 hl (by omega) (by omega) (by rw [hj3, Nat.zero_add]; exact g2)
            (fun d => rfl) (fun d => by rw [hj2, ← hsz]; exact hf d)
          have I2 := I.drew G d
          have hO := alloc_own (w := { w with drawn := d }) (T := e) (c := cp) (cells := #[] ++ vs.toArray ++ Builtin.zeroCells z.cells (cp - (0 + ys.length))) G (hC.stable (w := w) (w' := { w with drawn := d }) G (fun b j h => ⟨h, rfl⟩) (fun i o b j h => ⟨rfl, rfl, fun h => h⟩))
            (by simp [zeroCells_len, hC.len, hz2, ← hsz]; rw [← Nat.add_mul]; congr 1; omega) (by omega) (fun k v e => by
              have hk := get_lt e
              simp only [Array.empty_append]
              rw [Array.getElem?_append_left (by simpa using hk)]
              simpa using e) I2.fb
          have L2 : Less F F sets hp hp1 ks := L
          have H2 : HRel E F { w with drawn := d } hp1 vals sets := ⟨fun r R h => (H1.own r R h).stable (w := w) (w' := { w with drawn := d }) G (fun b j h => ⟨h, rfl⟩) (fun b j h => ⟨rfl, rfl⟩) (fun b j _ h => h), H1.dj⟩
          obtain ⟨I', hs⟩ := push_ok (R := ⟨e, m, ys⟩) G I2 L2 H2 hO (fun b j h => by
            rcases h with h | ⟨i, o, h⟩
            · exact .inl h.1
            · exact .inr (hB _ _ _ _ h))
          refine ⟨_, _, _, F, _, _, app_run ho hc ha ht (by rw [hxv]; exact k2), .inl rfl, I', ?_, fun u a hu => hs u a (hu.drew d), fun j hj => .inr (if_neg (by rw [L.len]; exact Nat.ne_of_lt hj)), Grow.refl _ _ _, fun _ _ _ _ e => by cases e⟩
          have := ref_new (E := E) (F := F) (w := ({ w with drawn := d } : World).alloc (.cells (#[] ++ vs.toArray ++ Builtin.zeroCells z.cells (cp - (0 + ys.length))) e)) (vals := fun r => if r = hp1.length then .slice (some ⟨w.heap.size, 0, none⟩) ys.length cp else vals r) (R := ⟨e, m, ys⟩) (hp' := hp1 ++ [some ⟨e, m, ys⟩]) (n := hp1.length) (by rw [root_push, if_pos rfl]) (if_pos rfl)
          rw [Nat.zero_add]
          rw [Nat.zero_add] at this
          exact this
      · cases h
    · cases h
  · -- a root of the call's own
    rename_i r vw full
    split at h
    · rename_i R hR
      split at h
      · rename_i ys hp1 ks hbz hsrc
        split at h
        · rename_i R1 hR1
          rcases ite_val h with ⟨⟨g1, g2⟩, h⟩ | ⟨_, h⟩
          · cases h
            have hbz := Nat.eq_of_beq_eq_true hbz
            obtain ⟨R2, u, row, k1, k2, k3⟩ := hx.ref'
            rw [hR] at k1
            cases k1
            obtain ⟨rfl, rfl⟩ := k2
            obtain ⟨vs, B, A, cc, e1, L, H1, hC, hf, hB⟩ := src_ok (P := P) G I.H hy hsrc
            have hRR : R1 = R := Option.some.inj ((L.sub _ _ hR1).symm.trans hR)
            subst hRR
            have hOr := H1.own r R1 hR1
            obtain ⟨S', hV, hsub⟩ := hOr.view G k3
            have hl : Builtin.lenOf (ρ y) = Sem.pure ys.length := by rw [e1]; rfl
            have hvl : (view R1.xs vw).length = vlen R1.xs vw := by
              cases vw with
              | none => rfl
              | some ok => obtain ⟨o', k⟩ := ok; have := k3.1; simp only [view, vlen, List.length_take, List.length_drop] at this ⊢; omega
            have hlt := root_lt hR1
            have hBS : ∀ i o b j, B i o b j → ¬ sets r b j := by
              intro i o b j hb hs
              obtain ⟨r', R', q1, q2, q3⟩ := hB _ _ _ _ hb
              have := I.H.dj _ _ _ _ q1 hR b j q3 hs
              subst this
              rw [hR1] at q2; cases q2
            obtain ⟨vs0, B0, A0, c0, e0, hC0, hf0, hB0⟩ := hV.cont (P := P) G
            have surv : ∀ (w2 : World) (v2 : Value) (R' : Root Ty), (∀ b j, F b j → w2.cell? ⟨b, j, none⟩ = w.cell? ⟨b, j, none⟩) → (∀ i Ri b j, i ≠ r → root hp i = some Ri → sets i b j → w2.cell? ⟨b, j, none⟩ = w.cell? ⟨b, j, none⟩) →
                ∀ u a, VRep E F w hp vals u a → VRep E F w2 (hp1.set r (some R')) (fun i => if i = r then v2 else vals i) u (killA ((r, 0) :: ks) a) := by
              intro w2 v2 R' q1 q2 u a hu
              refine survive (fun b j h => ⟨h, q1 _ _ h⟩) (fun i Ri p h1 hh => ?_) hu
              by_cases e : i = r
              · subst e
                exact absurd (hit_mem hh (n := 0) (by simp)) (by omega)
              · rcases L.out _ _ h1 with h3 | ⟨_, h3⟩
                · exact survive_root (hp' := hp1.set r (some R')) (vals' := fun i => if i = r then v2 else vals i) G I.H h1 (by rw [root_set, if_neg (fun h => e h.symm)]; exact h3) (if_neg e) (fun b j s => q2 i Ri b j e h1 s)
                · exact absurd (hit_mem hh (List.mem_cons_of_mem _ h3)) (by omega)
            by_cases hcap : vlen R1.xs vw + ys.length ≤ c0
            · -- in its own room
              have place : ∃ w' S3, (match A0 with | some a => (storeCells (a.add (vlen R1.xs vw * j.size)) vs 0).run P w = .ok () w' | none => w' = w) ∧ (∃ b base, Wrote w w' b base vs ∧ ∀ j, base ≤ j → j < base + vs.length → sets r b j) ∧
                  Own E F w' R1.m (.slice A0 (vlen R1.xs vw + ys.length) c0) R1.t (view R1.xs vw ++ ys) S3 ∧ ∀ b j, S3 b j → sets r b j ∨ ∃ i o, B i o b j := by
                rcases hV.inv with ⟨⟨A', e'⟩, e'', hS'⟩ | ⟨b, off, c', g, B', e', O⟩
                · rw [e0] at e'
                  injection e' with q1 q2 q3
                  have hy0 : ys.length = 0 := by omega
                  have hys : ys = [] := List.length_eq_zero_iff.1 hy0
                  subst hys
                  have hvs : vs = [] := by have := hC.len; simp at this; exact this
                  subst hvs
                  have hn0 : vlen R1.xs vw = 0 := by rw [← hvl, e'']; rfl
                  refine ⟨w, S', ?_, ⟨0, 0, .nil _ _ _, fun j h1 h2 => by simp at h2⟩, ?_, fun b j h => absurd h (hS' b j)⟩
                  · cases A0 with
                    | none => rfl
                    | some a => rfl
                  · rw [e'', hn0, q3]
                    exact .nil _ _ _ hS'
                · rw [e0] at e'
                  injection e' with q1 q2 q3
                  subst q3
                  have hroom : ∀ k, k < vs.length → vlen R1.xs vw * szOf E R1.t + k < c0 * szOf E R1.t := by
                    intro k hk
                    rw [hC.len] at hk
                    have : (vlen R1.xs vw + ys.length) * szOf E R1.t ≤ c0 * szOf E R1.t := Nat.mul_le_mul_right _ hcap
                    rw [Nat.add_mul] at this
                    omega
                  obtain ⟨w', hrun, hW⟩ := storeCells_ok (P := P) (b := b) (base := off + vlen R1.xs vw * szOf E R1.t) vs 0 w (fun kk hk => by
                    have := O.cap (vlen R1.xs vw * szOf E R1.t + kk) (hroom kk hk)
                    rw [show off + vlen R1.xs vw * szOf E R1.t + (0 + kk) = off + (vlen R1.xs vw * szOf E R1.t + kk) by omega]
                    exact ⟨this.1, this.2.1⟩) hC.one
                  rw [Nat.add_zero] at hW
                  obtain ⟨S3, hO3, hS3⟩ := O.extend G hC (by rw [hvl]; exact hcap) (by rw [hvl]; exact hW) (fun i o b' j hb hs => hBS _ _ _ _ hb (hsub _ _ hs))
                  rw [hvl] at hO3
                  refine ⟨w', S3, ?_, ⟨b, _, hW, fun j h1 h2 => hsub _ _ ?_⟩, by rw [q1]; exact hO3, fun b' j h => (hS3 b' j h).imp (hsub _ _) id⟩
                  · rw [q1]
                    simp only [addr_add]
                    rw [hj2, ← hbz]
                    exact hrun
                  · have h3 := hroom (j - off - vlen R1.xs vw * szOf E R1.t) (by omega)
                    have := O.mem (j := j - off) (by omega)
                    rwa [show off + (j - off) = j by omega] at this
              obtain ⟨w', S3, p1, ⟨b, base, hW, hin⟩, hO3, hS3⟩ := place
              have hrun := append_in (P := P) (w := w) (w' := w') (T := T1) (T2 := T2) (ty := o.type) (n0 := vlen R1.xs vw) (n1 := ys.length) (cap := c0) (base := A0) (x := ρ y) (vs := vs) u1 u3 rfl hj1 hl hcap (by rw [hj2, ← hbz]; exact hf w.drawn) p1
              have I' := set_ok G I L H1 (R' := ⟨R1.t, R1.m, view R1.xs vw ++ ys⟩) hR1 hW hin hO3 (fun b j h => (hS3 b j h).imp id (fun ⟨i, o, h⟩ => .inl (hB _ _ _ _ h)))
              refine ⟨_, _, w', F, _, _, app_run ho hc ha ht (by rw [e0, hvl]; exact hrun), .inl rfl, I', ref_new (by rw [root_set, if_pos rfl, if_pos hlt]) (if_pos rfl), surv _ _ _ (fun b' j h => ?_) (fun i Ri b' j hne hi hs => ?_), fun j hj => if e : j = r then .inl (by rw [e]; exact List.mem_cons_self) else .inr (if_neg e), Grow.refl _ _ _, fun _ _ _ _ e => by cases e⟩
              · exact hW.agreeF (Q := F) (fun j h1 h2 h => ((hOr.free _ _ (hin j h1 h2)).2.2 h)) _ _ h
              · exact hW.out _ _ (fun ⟨q1, q2, q3⟩ => hne (I.H.dj _ _ _ _ hi hR b' j hs (q1 ▸ hin j q2 q3)))
            · -- in new room
              obtain ⟨cp, d, k1, k2⟩ := append_grow (P := P) (w := w) (T := T1) (T2 := T2) (ty := o.type) (n0 := vlen R1.xs vw) (n1 := ys.length) (cap := c0) (base := A0) (x := ρ y) (vs0 := vs0) (vs := vs) u1 u3 rfl hj1 hz1 hl hcap g1 (by rw [hj3]; exact g2)
                (fun d => by rw [hj2, ← hbz, ← hvl, ← e0]; exact hf0 d) (fun d => by rw [hj2, ← hbz]; exact hf d)
              have I2 := I.drew G d
              have hCC := Cont.append G hC0 hC (fun i o i' o' b j h1 h2 => hBS _ _ _ _ h2 (hsub _ _ (hB0 _ _ _ _ h1)))
              have hO := alloc_own (w := { w with drawn := d }) (T := e) (c := cp) (cells := vs0.toArray ++ vs.toArray ++ Builtin.zeroCells z.cells (cp - (vlen R1.xs vw + ys.length))) G (hCC.stable (w := w) (w' := { w with drawn := d }) G (fun b j h => ⟨h, rfl⟩) (fun i o b j h => ⟨rfl, rfl, fun h => h⟩))
                (by simp only [Array.size_append, List.size_toArray, zeroCells_len, hC0.len, hC.len, hz2, ← hbz, hvl]; rw [← Nat.add_mul, ← Nat.add_mul]; congr 1; omega) (by simp only [List.length_append, hvl]; omega) (fun k v e => by
                  have hk := get_lt e
                  rw [Array.getElem?_append_left (by simpa using hk)]
                  have : (vs0.toArray ++ vs.toArray) = (vs0 ++ vs).toArray := by simp
                  rw [this]
                  simpa using e) I2.fb
              have H2 : HRel E F { w with drawn := d } hp1 vals sets := ⟨fun r R h => (H1.own r R h).stable (w := w) (w' := { w with drawn := d }) G (fun b j h => ⟨h, rfl⟩) (fun b j h => ⟨rfl, rfl⟩) (fun b j _ h => h), H1.dj⟩
              have I' := setNew_ok (R' := ⟨R1.t, R1.m, view R1.xs vw ++ ys⟩) G I2 L H2 hR1 hO (fun b j h => by
                rcases h with h | ⟨i, o, h⟩
                · exact .inl h.1
                · split at h
                  · exact .inr (.inl (hsub _ _ (hB0 _ _ _ _ h)))
                  · exact .inr (.inr (hB _ _ _ _ h)))
              rw [List.length_append, hvl] at I'
              refine ⟨_, _, _, F, _, _, app_run ho hc ha ht (by rw [e0, hvl]; exact k2), .inl rfl, I', ref_new (by rw [root_set, if_pos rfl, if_pos hlt]) (if_pos rfl), surv _ _ _ (fun b' j h => ?_) (fun i Ri b' j hne hi hs => ?_), fun j hj => if e : j = r then .inl (by rw [e]; exact List.mem_cons_self) else .inr (if_neg e), Grow.refl _ _ _, fun _ _ _ _ e => by cases e⟩
              · exact cell_alloc_old (w := { w with drawn := d }) (I.fb _ _ h)
              · exact cell_alloc_old (w := { w with drawn := d }) (I.lt hi hs)
          · cases h
        · cases h
      · cases h
    · cases h
  · cases h
end
end Go.Proofs.Ytnibdgjlbhdmfaa.Ev
