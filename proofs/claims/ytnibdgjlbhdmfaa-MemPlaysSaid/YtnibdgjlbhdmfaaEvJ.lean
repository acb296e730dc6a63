/- The evaluator's operations that leave memory alone: the machine does the same, all of them. -/
import Derived.Test.YtnibdgjlbhdmfaaEvI
namespace Go.Proofs.Ytnibdgjlbhdmfaa.Ev
open Go
set_option linter.unusedVariables false
set_option linter.unusedSimpArgs false
section
variable {Ty : Nat → Type} {E : Tb Ty}
variable {F : Set2} {w : World} {st : St Ty} {vals : Nat → Value} {sets : Nat → Set2} {P : Program} {ρ : Operand → Value}
theorem slice_str (K : TbOk E P) {t : Nat} {i : TI} (hi : E.ti t = some i) (hd : i.d = .str) {s : ByteArray} {lo hi' : Option Value} {l q m : Nat} (hb : Instr.sliceBounds false s.size s.size lo hi' none = Sem.pure (l, q, m)) :
    (Instr.sliceAt t (.string s) lo hi' none).run P w = .ok (.string (s.extract l q)) w := by
  obtain ⟨d, h1, h2⟩ := K.und t i hi
  rw [hd] at h2
  have := DOk.str h2
  subst this
  unfold Instr.sliceAt Instr.slice
  simp only [Bind.bind]
  rw [run_underlying h1]
  simp only
  rw [run_underlying h1]
  simp only [hb]
  rfl
theorem slice_sl (K : TbOk E P) {t e : Nat} {i ie : TI} (hi : E.ti t = some i) (hd : i.d = .slice e) (he : E.ti e = some ie) {A : Option Addr} {n c : Nat} {lo hi' mx : Option Value} {l q m : Nat} (hb : Instr.sliceBounds true n c lo hi' mx = Sem.pure (l, q, m)) :
    (Instr.sliceAt t (.slice A n c) lo hi' mx).run P w = .ok (.slice (if m = l then A else A.map (·.add (l * ie.sz))) (q - l) (m - l)) w := by
  obtain ⟨d, h1, h2⟩ := K.und t i hi
  rw [hd] at h2
  have := DOk.slice h2
  subst this
  obtain ⟨j, h3, h4, _⟩ := K.info _ _ he
  unfold Instr.sliceAt Instr.slice
  simp only [Bind.bind]
  rw [run_underlying h1]
  simp only
  rw [run_underlying h1]
  simp only [hb, Sem.bind]
  rw [run_sizeOf h3, h4]
  rfl
theorem mem_args {c : Call} {l : List Operand} (h : c.args.toList = l) : c.args = l.toArray := by rw [← h]
theorem builtin_run {o : Oper} {c : Call} {b : Builtin} (ho : o.op = .call c) (hc : c.callee = .builtin b) {s : Sem Value} (hs : ∀ cs, builtin b c.argTypes o.type cs (c.args.map ρ) = (do pure (.value (← s)))) {v : Value} {w' : World} (h : s.run P w = .ok v w') :
    (execOp ρ o).run P w = .ok (.value v) w' := by
  refine okB (s := s) ?_ h
  obtain ⟨dd, _, ty, pos, af, gd⟩ := o
  subst ho
  unfold execOp
  simp only [resolve, hc, Pure.pure, Bind.bind, Sem.bind, invoke]
  exact hs _
theorem pureT_ok (K : TbOk E P) (G : Good E) (H : HRel E F w st.hp vals sets) (hρ : ∀ x, VRep E F w st.hp vals (ρ x) (opA st.fr x)) (o : Oper) {av : AV Ty} (h : (pureT E st o.op).val = some av) :
    ∃ v, (execOp ρ o).run P w = .ok (.value v) w ∧ VRep E F w st.hp vals v av := by
  unfold pureT at h
  split at h
  · rename_i x ho
    cases h
    exact ⟨ρ x, by unfold execOp; rw [ho]; rfl, hρ x⟩
  · rename_i x ho
    cases h
    exact ⟨ρ x, by unfold execOp; rw [ho]; rfl, hρ x⟩
  · rename_i c a b ho
    split at h
    · rename_i q hq
      have e := hρ c
      rw [hq] at e
      have e := e.v
      rcases ite_val h with ⟨hq', h⟩ | ⟨hq', h⟩
      · cases h
        subst hq'
        exact ⟨ρ a, by unfold execOp; rw [ho]; simp [e, asBool, Bind.bind, Sem.bind, Pure.pure, Sem.run], hρ a⟩
      · cases h
        have : q = false := by cases q <;> simp_all
        subst this
        exact ⟨ρ b, by unfold execOp; rw [ho]; simp [e, asBool, Bind.bind, Sem.bind, Pure.pure, Sem.run], hρ b⟩
    · cases h
  · rename_i op t x y t' ho
    exact binA_ok K (hρ x) (hρ y) h o ho
  · rename_i op t x ho
    exact unA_ok (hρ x) h o ho
  · rename_i s d x ho
    split at h
    · rename_i i1 i2 k0 i3 i4 k k' n hs hd hx
      cases h
      have e := hρ x
      rw [hx] at e
      have e := e.v
      obtain ⟨d1, h1, h2⟩ := K.und _ _ hs
      have := DOk.int h2
      subst this
      obtain ⟨d2, h3, h4⟩ := K.und _ _ hd
      have := DOk.int h4
      subst this
      refine ⟨_, okB (s := convert s d (ρ x)) (by unfold execOp; rw [ho]) ?_, .rep _ _ (.v _)⟩
      rw [e]
      unfold convert
      simp only [Bind.bind]
      rw [run_underlying h1, run_underlying h3]
      rfl
    · cases h
  · rename_i x i ho
    split at h
    · rename_i cs hx
      have e := hρ x
      rw [hx] at e
      obtain ⟨vs, e1, e2, e3⟩ := e.tup'
      have h := opT_val h
      have hi : i < vs.size := by rw [e2]; exact get_lt h
      refine ⟨vs[i], okB (s := Instr.extract (ρ x) i) (by unfold execOp; rw [ho]) ?_, e3 i _ _ (Array.getElem?_eq_getElem hi) h⟩
      rw [e1]
      simp [Instr.extract, hi, Pure.pure, Sem.run]
    · cases h
  · rename_i x ho
    split at h
    · rename_i r p i q hx
      cases h
      have e := hρ x
      rw [hx] at e
      obtain ⟨R, b, off, c, row, h1, h2, h3, e1⟩ := e.ptr'
      refine ⟨ρ x, ?_, e⟩
      unfold execOp
      rw [ho]
      simp [e1, Pure.pure, Sem.run]
    · rename_i t xs i q hx
      cases h
      have e := hρ x
      rw [hx] at e
      refine ⟨ρ x, ?_, e⟩
      have := e.rp
      unfold execOp
      rw [ho]
      generalize hv : ρ x = v at this
      cases this
      simp [hv, Pure.pure, Sem.run]
    · cases h
  · rename_i s x f ho
    split at h
    · rename_i i1 i2 fs hs
      split at h
      · rename_i off t r p i q hf hx
        cases h
        have e := hρ x
        rw [hx] at e
        exact field_ok K hs rfl hf e (.inl ⟨r, p, i, q, rfl, rfl⟩) o ho
      · rename_i off t t' xs i q hf hx
        cases h
        have e := hρ x
        rw [hx] at e
        exact field_ok K hs rfl hf e (.inr ⟨t', xs, i, q, rfl, rfl⟩) o ho
      · cases h
    · cases h
  · rename_i t x ix ho
    split at h
    · rename_i i1 i2 e k q ht hix
      split at h
      · rename_i ie he
        have e1 := hρ ix
        rw [hix] at e1
        exact index_ok K G H ht rfl he (hρ x) e1.v h o ho
      · cases h
    · cases h
  · rename_i t x ix ho
    split at h
    · rename_i i1 i2 s k q ht hx hix
      rcases ite_val h with ⟨g1, h⟩ | ⟨_, h⟩
      · rcases ite_val h with ⟨g2, h⟩ | ⟨_, h⟩
        · cases h
          have e1 := hρ x
          rw [hx] at e1
          have e1 := e1.v
          have e2 := hρ ix
          rw [hix] at e2
          have e2 := e2.v
          obtain ⟨d, h1, h2⟩ := K.und _ _ ht
          have := DOk.str h2
          subst this
          obtain ⟨b1, b2⟩ := bt_of g2 g1
          refine ⟨_, okB (s := Instr.index t (ρ x) (ρ ix)) (by unfold execOp; rw [ho]) ?_, .rep _ _ (.v _)⟩
          rw [e1, e2]
          unfold Instr.index
          simp only [asIntOf, Bind.bind, Sem.bind, Pure.pure]
          rw [run_underlying h1]
          simp only [g1, if_true, b1, b2]
          rfl
        · cases h
      · cases h
    · cases h
  · rename_i t a ho
    split at h
    · rename_i i hi
      split at h
      · cases h
      · rename_i hn
        obtain ⟨v, h1, h2⟩ := load_ok K G H hi (by split <;> simp_all) (hρ a) h
        exact ⟨v, okB (s := Instr.loadAt t (ρ a)) (by unfold execOp; rw [ho]) h1, h2⟩
    · cases h
  · rename_i t x lo hi mx ho
    split at h
    · rename_i i1 i2 s ht hx
      split at h
      · have e1 := hρ x
        rw [hx] at e1
        have e1 := e1.v
        obtain ⟨l, q, m, c1, c2, c3, c4⟩ := cut_ok (ρ := ρ) (f := opA st.fr) (mx := none) hρ (Nat.le_refl _) (isS := false) (fun _ => rfl) h
        rcases c4 with ⟨_, _, c4⟩ | ⟨c4, _⟩
        · cases c4
          refine ⟨_, okB (s := Instr.sliceAt t (ρ x) (lo.map ρ) (hi.map ρ) none) (by unfold execOp; rw [ho]; rfl) ?_, .rep _ _ (.v _)⟩
          rw [e1]
          exact slice_str K ht rfl c1
        · cases c4
      · cases h
    · rename_i i1 i2 e t' xs ht hx
      split at h
      · rename_i ie he
        split at h
        · rename_i hz
          have hz := Nat.eq_of_beq_eq_true hz
          have e1 := hρ x
          rw [hx] at e1
          have e1 := e1.sl
          obtain ⟨A, c, e2, hc⟩ := e1.slen'
          obtain ⟨l, q, m, c1, c2, c3, c4⟩ := cut_ok (ρ := ρ) (f := opA st.fr) hρ hc (isS := true) (fun h => by cases h) h
          have hm : q ≤ m ∧ m ≤ c := by rcases c4 with ⟨_, h, _⟩ | ⟨_, h, _⟩ <;> omega
          have hav : av = .sl false t' ((xs.drop l).take (q - l)) := by rcases c4 with ⟨_, _, h⟩ | ⟨_, _, h⟩ <;> cases h <;> rfl
          subst hav
          refine ⟨_, okB (s := Instr.sliceAt t (ρ x) (lo.map ρ) (hi.map ρ) (mx.map ρ)) (by unfold execOp; rw [ho]) (by rw [e2]; exact slice_sl K ht rfl he c1), ?_⟩
          rw [← hz]
          exact .rep _ _ (e1.cut G c2 c3 e2 hm.1 hm.2)
        · cases h
      · cases h
    · rename_i i1 i2 e r p vw full ht hx
      split at h
      · rename_i ie m' row he hrow
        split at h
        · rename_i hz
          have hz := Nat.eq_of_beq_eq_true hz
          have e1 := hρ x
          rw [hx] at e1
          obtain ⟨R, u, row', h1, h2, h3⟩ := e1.ref'
          have := rowAt_of h1 h2
          rw [this] at hrow
          cases hrow
          have hsh := own_shape G H h1 h2
          obtain ⟨A, c, e2⟩ := h3.len (by rcases hsh with ⟨A, h, h'⟩ | ⟨b, off, c, h, _⟩ <;> rw [h] <;> first | (rw [h']; exact ⟨_, _, rfl⟩) | exact ⟨_, _, rfl⟩) (xs := row.xs) rfl
          have hc : vlen row.xs vw ≤ c := by
            cases vw with
            | none =>
              obtain ⟨k1, _⟩ := h3
              rcases hsh with ⟨A', h, h'⟩ | ⟨b, off, c', h, h'⟩
              · simp [vlen, h']
              · rw [e2, h] at k1; injection k1 with _ _ k1; subst k1; exact h'
            | some ok =>
              obtain ⟨o1, k⟩ := ok
              obtain ⟨_, ⟨k1, _⟩ | ⟨b, off, c1, c', _, k1, k2, _⟩⟩ := h3
              · simp [vlen, k1]
              · rw [e2] at k1; injection k1 with _ _ k1; subst k1; exact k2
          obtain ⟨l, q, m, c1, c2, c3, c4⟩ := cut_ok (ρ := ρ) (f := opA st.fr) hρ hc (isS := true) (fun h => by cases h) h
          have hm : q ≤ m ∧ m ≤ c := by rcases c4 with ⟨_, h, _⟩ | ⟨_, h, _⟩ <;> omega
          have hav : ∃ f, av = .ref r p (some (voff vw + l, q - l)) f ∧ (f = true → m = q) := by
            rcases c4 with ⟨_, _, h⟩ | ⟨_, h', h⟩ <;> cases h
            · exact ⟨false, rfl, fun h => by cases h⟩
            · exact ⟨true, rfl, fun _ => h'⟩
          obtain ⟨f, rfl, hf⟩ := hav
          refine ⟨_, okB (s := Instr.sliceAt t (ρ x) (lo.map ρ) (hi.map ρ) (mx.map ρ)) (by unfold execOp; rw [ho]) (by rw [e2]; exact slice_sl K ht rfl he c1), ?_⟩
          rw [← hz]
          refine .ref r p _ f _ R u row h1 h2 (h3.cut ?_ rfl e2 c2 c3 hm.1 hm.2 hf)
          rcases hsh with ⟨A', h, h'⟩ | h
          · exact .inl ⟨A', h, h'⟩
          · exact .inr h
        · cases h
      · cases h
    · cases h
  · rename_i t parts ho
    split at h
    · rename_i i1 i2 fs ht hh
      split at h
      · rename_i ps h1
        split at h
        · rename_i cs h2
          cases h
          exact build_ok K G H hρ ht rfl hh h1 h2 o ho
        · cases h
      · cases h
    · cases h
  · rename_i c ho
    split at h
    · rename_i x hc hargs
      have hargs := mem_args hargs
      split at h
      · rename_i t hty
        have hty : c.argTypes = #[t] := by rw [← Array.toArray_toList (xs := c.argTypes), hty]
        split at h
        · rename_i i1 i2 s ht hx
          cases h
          have e1 := hρ x
          rw [hx] at e1
          obtain ⟨d, h1, h2⟩ := K.und _ _ ht
          have := DOk.str h2
          subst this
          refine ⟨_, builtin_run (s := Builtin.len_ c.argTypes o.type (c.args.map ρ)) ho hc (fun cs => rfl) ?_, .rep _ _ (.v _)⟩
          rw [hargs, hty]
          simp [Builtin.len_, e1.v, Bind.bind, underlying, program, h1, Sem.bind, Sem.run, Pure.pure, goInt]
        · rename_i i1 i2 e b xs ht hx
          cases h
          have e1 := hρ x
          rw [hx] at e1
          obtain ⟨A, c', e2⟩ := e1.sl.slen
          obtain ⟨d, h1, h2⟩ := K.und _ _ ht
          have := DOk.slice h2
          subst this
          refine ⟨_, builtin_run (s := Builtin.len_ c.argTypes o.type (c.args.map ρ)) ho hc (fun cs => rfl) ?_, .rep _ _ (.v _)⟩
          rw [hargs, hty]
          simp [Builtin.len_, e2, Bind.bind, underlying, program, h1, Sem.bind, Sem.run, Pure.pure, goInt]
        · rename_i i1 i2 e r p vw f ht hx
          split at h
          · rename_i m row hrow
            cases h
            have e1 := hρ x
            rw [hx] at e1
            obtain ⟨R, u, row', k1, k2, k3⟩ := e1.ref'
            have := rowAt_of k1 k2
            rw [this] at hrow
            cases hrow
            have hsh := own_shape G H k1 k2
            obtain ⟨A, c', e2⟩ := k3.len (by rcases hsh with ⟨A, h, h'⟩ | ⟨b, off, c, h, _⟩ <;> rw [h] <;> first | (rw [h']; exact ⟨_, _, rfl⟩) | exact ⟨_, _, rfl⟩) (xs := row.xs) rfl
            obtain ⟨d, h1, h2⟩ := K.und _ _ ht
            have := DOk.slice h2
            subst this
            refine ⟨_, builtin_run (s := Builtin.len_ c.argTypes o.type (c.args.map ρ)) ho hc (fun cs => rfl) ?_, .rep _ _ (.v _)⟩
            rw [hargs, hty]
            simp [Builtin.len_, e2, Bind.bind, underlying, program, h1, Sem.bind, Sem.run, Pure.pure, goInt]
          · cases h
        · cases h
      · cases h
    · rename_i x y hc hargs
      have hargs := mem_args hargs
      split at h
      · rename_i k a k' b hx hy
        cases h
        have e1 := hρ x
        rw [hx] at e1
        have e2 := hρ y
        rw [hy] at e2
        refine ⟨_, builtin_run (s := Builtin.min_ c.argTypes o.type (c.args.map ρ)) ho hc (fun cs => rfl) ?_, .rep _ _ (.v _)⟩
        rw [hargs]
        simp [Builtin.min_, Builtin.min2, e1.v, e2.v, Bind.bind, Sem.bind, Sem.run, Pure.pure]
      · cases h
    · rename_i x y hc hargs
      have hargs := mem_args hargs
      split at h
      · rename_i k a k' b hx hy
        cases h
        have e1 := hρ x
        rw [hx] at e1
        have e2 := hρ y
        rw [hy] at e2
        refine ⟨_, builtin_run (s := Builtin.max_ c.argTypes o.type (c.args.map ρ)) ho hc (fun cs => rfl) ?_, .rep _ _ (.v _)⟩
        rw [hargs]
        simp [Builtin.max_, Builtin.max2, e1.v, e2.v, Bind.bind, Sem.bind, Sem.run, Pure.pure]
      · cases h
    · cases h
  · cases h
end
end Go.Proofs.Ytnibdgjlbhdmfaa.Ev
