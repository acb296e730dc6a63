/- Regions whose operations may come in several orders: one operation done, whichever is ready. -/
import Derived.Test.YtnibdgjlbhdmfaaEvZE
namespace Go.Proofs.Ytnibdgjlbhdmfaa.Ev
open Go
set_option linter.unusedVariables false
set_option linter.unusedSimpArgs false
section
variable {Ty : Nat → Type} (E : Tb Ty) (C : Cfg Ty)
structure Ahead (X : Set2) (W0 : World) (F0 : Set2) (B : Nat → Value) (tr : List (Rec Ty)) (D : Nat → Bool) (s : St Ty) (a : Act) (w : World) : Prop where
  ex : ∃ F vals sets, Inv E X W0 F w (hpD C tr D s.hp) vals sets ∧ (∀ t, FRep E X W0 F w (hpD C tr D s.hp) vals sets (a.tmps.getD t undef) (frD tr D (look s.fr) t)) ∧ (∀ j, j < C.nf → vals j = B j) ∧ Grow X W0 F0 F
  size : a.tmps.size = C.nt
  defs : a.defers = []
  nf : C.nf ≤ (hpD C tr D s.hp).length
structure Turn (ops : Array Oper) (tr t1 : List (Rec Ty)) (c : Rec Ty) (t2 : List (Rec Ty)) (D : Nat → Bool) : Prop where
  eq : tr = t1 ++ c :: t2
  n1 : ∀ b, b ∈ t1 → b.i ≠ c.i
  n2 : ∀ b, b ∈ t2 → b.i ≠ c.i
  no : D c.i = false
  f1 : ∀ b, b ∈ t1 → D b.i = true ∨ (kindO C b.o = 1 ∧ b.o.apart ops c.o = true)
  f2 : ∀ b, b ∈ t2 → D b.i = true → kindO C c.o = 1 ∧ c.o.apart ops b.o = true ∧ (kindO C b.o = 3 → still c.o = true)
  k5 : ∀ l1 b l2, tr = l1 ++ b :: l2 → D b.i = true → kindO C b.o ≠ 1 → ∀ x, x ∈ l1 → kindO C x.o ≠ 1 → D x.i = true
  far : ∀ b, b ∈ t2 → D b.i = true → b.r.2.2 ≠ [] → ∀ a, a ∈ valsO c.o c.s → touch b.r.2.2 a = false ∧ (still c.o = false → touch (zeroK b.r.2.2) a = false)
def withD (D : Nat → Bool) (i : Nat) : Nat → Bool := fun x => D x || Nat.beq x i
variable {E} {C}
variable {X : Set2} {W0 : World} {F0 F F' : Set2} {B : Nat → Value} {w w' : World} {hp hp' : Heap Ty} {vals vals' : Nat → Value} {sets sets' : Nat → Set2} {P : Program} {s s' : St Ty} {a : Act}
variable {ops : Array Oper} {tr t1 t2 : List (Rec Ty)} {c : Rec Ty} {D : Nat → Bool}
theorem Ahead.zero (tr : List (Rec Ty)) (R : SRep E C X W0 F0 B s a w) : Ahead E C X W0 F0 B tr (fun _ => false) s a w := by
  have h1 : hpD C tr (fun _ => false) s.hp = s.hp := hpD_none tr fun _ _ h => by cases h
  obtain ⟨⟨F, vals, sets, I, hf, hB, hG⟩, hsz, hdf, hnf⟩ := R
  refine ⟨⟨F, vals, sets, by rw [h1]; exact I, fun t => ?_, hB, hG⟩, hsz, hdf, by rw [h1]; exact hnf⟩
  rw [h1, frD_zero tr fun _ _ => rfl]
  exact hf t
theorem Ahead.done (T : Tr E C ops s tr s') (h : ∀ c, c ∈ tr → D c.i = true) (A : Ahead E C X W0 F0 B tr D s a w) : SRep E C X W0 F0 B s' a w := by
  have h1 : hpD C tr D s.hp = s'.hp := hpD_full tr T (fun c hc => .inl (h c hc))
  obtain ⟨⟨F, vals, sets, I, hf, hB, hG⟩, hsz, hdf, hnf⟩ := A
  rw [h1] at I hf hnf
  refine ⟨⟨F, vals, sets, I, fun t => ?_, hB, hG⟩, hsz, hdf, hnf⟩
  have := hf t
  rwa [frD_full tr T (fun c hc => .inl (h c hc)) rfl] at this
/-- What the operation looks at stands there. -/
theorem Turn.read (Z : Turn C ops tr t1 c t2 D) (T : Tr E C ops s tr s') {t : Nat} (h : t ∈ c.o.looksAt ops) : frD tr D (look s.fr) t = killsD t2 D (look c.s.fr t) := by
  rw [Z.eq, frD_app]
  have T1 := (Tr.split (by rw [← Z.eq]; exact T)).1
  unfold frD
  rw [frD_none t2 fun b hb hD => fun e => (Oper.apart_spec (Z.f2 b hb hD).2.1).2.2 t e h]
  rw [if_neg (by rw [Z.no]; simp)]
  rw [frD_full t1 T1 (fun b hb => ?_) rfl]
  rcases Z.f1 b hb with h' | ⟨h1, h'⟩
  · exact .inl h'
  · exact .inr ⟨h1, fun e => (Oper.apart_spec h').1 t e h⟩
/-- What is gone by what was done already is nothing that the operation looks at. -/
theorem Turn.kept (Z : Turn C ops tr t1 c t2 D) {t : Nat} (h : Operand.tmp t ∈ c.o.op.operands.toList) : killsD t2 D (look c.s.fr t) = look c.s.fr t := by
  rcases rest_mem h c.s.fr with e | hm
  · rw [e]; exact killsD_same t2 fun _ _ _ => kill_dead _
  · refine killsD_same t2 fun b hb hD => ?_
    by_cases e : b.r.2.2 = []
    · rw [e]; rfl
    · exact touch_kill (Z.far b hb hD e _ (List.mem_map.2 ⟨_, hm, rfl⟩)).1
theorem Turn.heap (Z : Turn C ops tr t1 c t2 D) (T : Tr E C ops s tr s') (hk : kindO C c.o ≠ 1) : hpD C tr D s.hp = c.s.hp := by
  rw [Z.eq, hpD_app]
  have T1 := (Tr.split (by rw [← Z.eq]; exact T)).1
  rw [hpD_none (c :: t2) fun b hb hD => ?_]
  · exact hpD_full t1 T1 (fun b hb => (Z.f1 b hb).imp id (·.1))
  · rcases List.mem_cons.1 hb with rfl | hb
    · rw [Z.no] at hD; cases hD
    · exact absurd (Z.f2 b hb hD).1 hk
theorem Turn.sub (Z : Turn C ops tr t1 c t2 D) (T : Tr E C ops s tr s') (hns : ∀ b, b ∈ t2 → D b.i = true → kindO C b.o ≠ 3) : ∀ r R, root c.s.hp r = some R → root (hpD C tr D s.hp) r = some R ∨ ∃ b, (b ∈ t2 ∧ D b.i = true) ∧ ∃ d, (r, d) ∈ b.r.2.2 := by
  have k5 := Z.k5
  rw [Z.eq] at k5 ⊢
  rw [hpD_app]
  obtain ⟨T1, hc, T2⟩ := Tr.split (by rw [← Z.eq]; exact T)
  rw [hpD_full t1 T1 (fun b hb => (Z.f1 b hb).imp id (·.1))]
  refine hpD_sub (Bd := fun b => b ∈ t2 ∧ D b.i = true) (c :: t2) (.cons c t2 _ hc T2) (fun l1 b l2 e hD hk => ⟨?_, fun x hx hx2 => ?_⟩) (fun b hb hD => ?_) (fun _ _ e => .inl e) (fun _ _ e => .inl e)
  · have hb : b ∈ c :: t2 := by rw [e]; simp
    rcases List.mem_cons.1 hb with rfl | hb
    · rw [Z.no] at hD; cases hD
    · exact hns b hb hD
  · exact k5 (t1 ++ l1) b l2 (by rw [e, List.append_assoc]) hD hk x (List.mem_append_right _ hx) hx2
  · rcases List.mem_cons.1 hb with rfl | hb
    · rw [Z.no] at hD; cases hD
    · exact ⟨hb, hD⟩
theorem withD_ne {i x : Nat} (h : x ≠ i) : withD D i x = D x := by
  unfold withD
  have : Nat.beq x i = false := by
    cases e : Nat.beq x i with
    | false => rfl
    | true => exact absurd (Nat.eq_of_beq_eq_true e) h
  rw [this, Bool.or_false]
theorem withD_self (i : Nat) : withD D i i = true := by unfold withD; rw [Nat.beq_refl, Bool.or_true]
theorem Turn.fr1 (Z : Turn C ops tr t1 c t2 D) (hc : RecOk E C ops c) (hk : kindO C c.o = 1) (f : Nat → AV Ty) (t : Nat) : frD tr (withD D c.i) f t = if c.o.dst = some t then killsD t2 D c.r.1 else frD tr D f t := by
  have h1 : ∀ g : Nat → AV Ty, frD t1 (withD D c.i) g t = frD t1 D g t := fun g => frD_congr t1 (fun b hb => withD_ne (Z.n1 b hb)) rfl
  have h2 : ∀ g g' : Nat → AV Ty, g t = g' t → frD t2 (withD D c.i) g t = frD t2 D g' t := fun g g' e => frD_congr t2 (fun b hb => withD_ne (Z.n2 b hb)) e
  rw [Z.eq, frD_app, frD_app]
  unfold frD
  by_cases hd : c.o.dst = some t
  · rw [if_pos hd]
    have : frD t2 D (fun _ => c.r.1) t = killsD t2 D c.r.1 := frD_none t2 fun b hb hD => (Oper.apart_spec (Z.f2 b hb hD).2.1).2.1 t hd
    rw [← this]
    refine h2 _ _ ?_
    rw [withD_self, if_pos rfl, if_pos hd]
  · rw [if_neg hd]
    refine h2 _ _ ?_
    rw [withD_self, if_pos rfl, if_neg hd, hc.ks1 hk, if_neg (by rw [Z.no]; simp), h1]
    rfl
theorem Turn.fr2 (Z : Turn C ops tr t1 c t2 D) (hk : kindO C c.o ≠ 1) (f : Nat → AV Ty) (t : Nat) : frD tr (withD D c.i) f t = if c.o.dst = some t then c.r.1 else killA c.r.2.2 (frD tr D f t) := by
  have h1 : ∀ g : Nat → AV Ty, frD t1 (withD D c.i) g t = frD t1 D g t := fun g => frD_congr t1 (fun b hb => withD_ne (Z.n1 b hb)) rfl
  have no2 : ∀ b, b ∈ t2 → D b.i = false := fun b hb => by
    cases e : D b.i with
    | false => rfl
    | true => exact absurd (Z.f2 b hb e).1 hk
  have h2 : ∀ g : Nat → AV Ty, frD t2 (withD D c.i) g t = g t := fun g => frD_zero t2 fun b hb => by rw [withD_ne (Z.n2 b hb)]; exact no2 b hb
  have h3 : ∀ g : Nat → AV Ty, frD t2 D g t = g t := fun g => frD_zero t2 no2
  rw [Z.eq, frD_app, frD_app]
  unfold frD
  rw [h2, h3]
  simp only [withD_self, if_true, Z.no, Bool.false_eq_true, if_false, h1]
theorem Turn.heap' (Z : Turn C ops tr t1 c t2 D) (h : Heap Ty) : hpD C tr (withD D c.i) h = if kindO C c.o ≠ 1 then c.r.2.1 else hpD C tr D h := by
  rw [Z.eq, hpD_app, hpD_app]
  unfold hpD
  by_cases hk : kindO C c.o = 1
  · simp only [hk, ne_eq, not_true_eq_false, and_false, if_false]
    rw [hpD_congr t2 fun b hb => withD_ne (Z.n2 b hb), hpD_congr t1 fun b hb => withD_ne (Z.n1 b hb)]
  · rw [hpD_none t2 fun b hb hD => ?_, if_pos ⟨withD_self _, hk⟩, if_pos hk]
    rw [withD_ne (Z.n2 b hb)] at hD
    exact absurd (Z.f2 b hb hD).1 hk
theorem Ahead.step (Z : Turn C ops tr t1 c t2 D) (hd : okD C c.o.dst = true) (hsz : a.tmps.size = C.nt) (hdf : a.defers = []) (H' : Heap Ty) (hH : H' = if kindO C c.o ≠ 1 then c.r.2.1 else hpD C tr D s.hp) (I : Inv E X W0 F w H' vals sets)
    {y : AV Ty} {g : Nat → AV Ty} (hfr : ∀ t, frD tr (withD D c.i) (look s.fr) t = if c.o.dst = some t then y else g t) (hf : ∀ t, FRep E X W0 F w H' vals sets (a.tmps.getD t undef) (g t)) (hB : ∀ j, j < C.nf → vals j = B j) (hG : Grow X W0 F0 F) (hnf : C.nf ≤ H'.length) {v : Value} (hv : FRep E X W0 F w H' vals sets v y) : Ahead E C X W0 F0 B tr (withD D c.i) s (a.put c.o.dst v) w := by
  have e : hpD C tr (withD D c.i) s.hp = H' := by rw [Z.heap', hH]
  refine ⟨⟨F, vals, sets, by rw [e]; exact I, fun t => ?_, hB, hG⟩, by rw [put_size, hsz], by rw [put_defers, hdf], by rw [e]; exact hnf⟩
  rw [e, hfr]
  cases ho : c.o.dst with
  | none => rw [if_neg (by simp)]; exact hf t
  | some d =>
    rw [ho] at hd
    rw [put_get _ _ _ _ (by rw [hsz]; exact Nat.le_of_ble_eq_true hd)]
    by_cases et : t = d
    · subst et; rw [if_pos rfl, if_pos rfl]; exact hv
    · rw [if_neg et, if_neg fun h => et (Option.some.inj h).symm]; exact hf t
theorem FRep.kill {ks : List (Nat × Nat)} {v : Value} {a : AV Ty} (h : FRep E X W0 F w hp vals sets v a) : FRep E X W0 F w hp vals sets v (killA ks a) := by
  refine ⟨VRep.kill (fun _ _ h => h) (fun _ _ _ _ _ _ h => h) (fun _ _ _ _ _ _ h => h) h.1, fun r p t xs e => ?_⟩
  cases ks with
  | nil => exact h.2 r p t xs e
  | cons k l => exact absurd e kill_ne
theorem FRep.kills {v : Value} : ∀ (l : List (Rec Ty)) {a : AV Ty}, FRep E X W0 F w hp vals sets v a → FRep E X W0 F w hp vals sets v (killsD l D a)
  | [], a, h => h
  | c :: l, a, h => by
    unfold killsD
    by_cases e : D c.i = true
    · rw [if_pos e]; exact FRep.kills l h.kill
    · rw [if_neg e]; exact FRep.kills l h
theorem wanted_is {o : Oper} {fr : List (Nat × AV Ty)} {wn : Bool} (h : GuardIs ops o fr wn) (hr : ∀ t, t ∈ o.looksAt ops → ∀ v, look fr t = .v v → a.tmps.getD t undef = v) : Region.wanted o (yielded ops a.tmps) = wn := by
  unfold GuardIs at h
  split at h
  · rename_i hg
    subst h
    simp [Region.wanted, hg]
  · rename_i g want hg
    obtain ⟨t, ht, h⟩ := h
    have hm : t ∈ o.looksAt ops := by
      unfold Oper.looksAt
      rw [hg]
      simp only [ht]
      exact List.mem_append_right _ (by simp)
    have hy := yield_of (a := a) ht
    rcases h with ⟨b, h1, rfl⟩ | ⟨⟨vs, h1⟩, rfl⟩
    · rw [hr t hm _ h1] at hy
      simp only [Region.wanted, hg, hy]
      cases b <;> cases want <;> rfl
    · rw [hr t hm _ h1] at hy
      simp [Region.wanted, hg, hy]
theorem looks_of {o : Oper} {t : Nat} (h : Operand.tmp t ∈ o.op.operands.toList) : t ∈ o.looksAt ops := by
  unfold Oper.looksAt
  exact List.mem_append_left _ (List.mem_filterMap.2 ⟨.tmp t, h, rfl⟩)
theorem Tr.mem' {s s' : St Ty} {tr : List (Rec Ty)} (T : Tr E C ops s tr s') {c : Rec Ty} (h : c ∈ tr) : RecOk E C ops c := by
  obtain ⟨l1, l2, rfl⟩ := List.append_of_mem h
  exact (Tr.split T).2.1
theorem exec_ok (K : TbOk E P) (G : Good E) (hS : SOk E C P) (Z : Turn C ops tr t1 c t2 D) (T : Tr E C ops s tr s') (A : Ahead E C X W0 F0 B tr D s a w) {Kt : Act → World → Prop} {Q : Exit → Act → World → Prop}
    (h1 : ∀ a' w', Ahead E C X W0 F0 B tr (withD D c.i) s a' w' → Kt a' w') : wpOp P ops Q c.i Kt a w := by
  obtain ⟨T1, hc, T2⟩ := Tr.split (by rw [← Z.eq]; exact T)
  obtain ⟨⟨F, vals, sets, I, hf, hB, hG⟩, hsz, hdf, hnf⟩ := A
  have hrd : ∀ t, Operand.tmp t ∈ c.o.op.operands.toList → FRep E X W0 F w (hpD C tr D s.hp) vals sets (a.tmps.getD t undef) (look c.s.fr t) := fun t ht => by
    have := hf t
    rwa [Z.read T (looks_of ht), Z.kept ht] at this
  have hw : Region.wanted c.o (yielded ops a.tmps) = c.wn := wanted_is hc.g fun t ht v hv => by
    have := (hf t).1
    rw [Z.read T ht, hv, killsD_same t2 fun _ _ _ => kill_v _ _] at this
    exact this.v
  unfold wpOp
  simp only [hc.here]
  cases hwn : c.wn with
  | false =>
    rw [hw, hwn, if_neg (by simp)]
    have hr := hc.no hwn
    have hks : c.r.2.2 = [] := by rw [hr]
    have hu : c.r.1 = .v undef := by rw [hr]
    by_cases hk1 : kindO C c.o = 1
    · exact h1 _ _ (Ahead.step Z hc.d hsz hdf _ (by rw [if_neg (fun h => h hk1)]) I (Z.fr1 hc hk1 _) hf hB hG hnf (FRep.kills t2 (by rw [hu]; exact .unit _)))
    · refine h1 _ _ (Ahead.step Z hc.d hsz hdf _ ?_ I (g := frD tr D (look s.fr)) (fun t => by rw [Z.fr2 hk1, hks]; rfl) hf hB hG hnf (by rw [hu]; exact .unit _))
      rw [if_pos hk1, hr, Z.heap T hk1]
  | true =>
    rw [hw, hwn, if_pos rfl]
    refine .inl ?_
    obtain ⟨e1, e2, e3, e5⟩ := hc.yes hwn
    by_cases hk : kindO C c.o = 1
    · rw [op_pure hk] at e1
      unfold pureR at e1
      rw [Ev.T.val_bind] at e1
      obtain ⟨av, q1, q2⟩ := e1
      have q1 : (pureT E ⟨restF c.o.op c.s.fr, hpD C tr D s.hp⟩ c.o.op).val = some av := by
        by_cases hst : still c.o = true
        · exact pureT_still hst q1
        · have hns : ∀ b, b ∈ t2 → D b.i = true → kindO C b.o ≠ 3 := fun b hb hD h3 => hst ((Z.f2 b hb hD).2.2 h3)
          refine pureT_sub (fun x => ?_) q1
          have gone : ∀ r R, root c.s.hp r = some R → (∀ b, b ∈ t2 → D b.i = true → ∀ d, (r, d) ∉ b.r.2.2) → root (hpD C tr D s.hp) r = some R := fun r R e h => by
            rcases Z.sub T hns r R e with h' | ⟨b, ⟨hb, hD⟩, d, hm⟩
            · exact h'
            · exact absurd hm (h b hb hD d)
          have far : ∀ (t : Nat) (y : AV Ty), opA (restF c.o.op c.s.fr) (.tmp t) = y → y ≠ .dead → ∀ b, b ∈ t2 → D b.i = true → b.r.2.2 ≠ [] → touch (zeroK b.r.2.2) y = false := fun t y e hy b hb hD hk => by
            have e : look (restF c.o.op c.s.fr) t = y := e
            rw [look_rest] at e
            split at e
            · rename_i hm
              rcases rest_mem (memO_spec.1 hm) c.s.fr with h | h
              · rw [h] at e; exact absurd e.symm hy
              · rw [← e]; exact (Z.far b hb hD hk _ (List.mem_map.2 ⟨_, h, rfl⟩)).2 (by simpa using hst)
            · exact absurd e.symm hy
          have miss : ∀ {ks : List (Nat × Nat)} {r : Nat} {p : Path}, hit (zeroK ks) r p = false → ∀ d, (r, d) ∉ ks := fun h d hm => by
            have := hit_mem h (List.mem_map.2 ⟨_, hm, rfl⟩ : (_, 0) ∈ zeroK _)
            omega
          cases x with
          | tmp t =>
            generalize hy : opA (restF c.o.op c.s.fr) (.tmp t) = y
            cases y <;> try exact trivial
            · intro R e
              refine gone _ R e fun b hb hD d hm => ?_
              have hn : b.r.2.2 ≠ [] := fun h => by rw [h] at hm; cases hm
              exact miss (far t _ hy (by simp) b hb hD hn) d hm
            · intro R e
              refine gone _ R e fun b hb hD d hm => ?_
              have hn : b.r.2.2 ≠ [] := fun h => by rw [h] at hm; cases hm
              exact miss (far t _ hy (by simp) b hb hD hn) d hm
          | const v => show Same0 _ _ (lit v); unfold lit; split <;> trivial
          | func f => trivial
          | global g => trivial
      obtain ⟨v, q3, q4⟩ := pureT_ok (st := ⟨restF c.o.op c.s.fr, hpD C tr D s.hp⟩) K G I.H (rest_rep (a := a) fun t ht => (hrd t ht).1) c.o q1
      unfold Oper.wp
      rw [q3]
      have hr1 : c.r.1 = noX av := by have := Option.some.inj q2; rw [← this]
      exact h1 _ _ (Ahead.step Z hc.d hsz hdf _ (by rw [if_neg (fun h => h hk)]) I (Z.fr1 hc hk _) hf hB hG hnf (FRep.kills t2 (by rw [hr1]; exact .of (noX_rep q4) fun _ _ _ _ => noX_ne)))
    · have e := Z.heap T hk
      rw [e] at I hf hnf hrd
      refine op_ok K G hS I (rest_rep (a := a) fun t ht => (hrd t ht).1) (rest_repX (a := a) fun t ht => hrd t ht) c.o e1 fun v w' Aft => h1 _ _ ?_
      obtain ⟨F', vals', sets', I', hv, hs, hp, hg, hx, _⟩ := Aft
      refine Ahead.step Z hc.d hsz hdf _ (by rw [if_pos hk]) I' (Z.fr2 hk _) (fun t => ⟨hs _ _ (hf t).1, fun r0 p t' xs e => ?_⟩) (fun j hj => ?_) (hG.trans hg) e3 ⟨hv, hx⟩
      · cases hks : c.r.2.2 with
        | cons k l => rw [hks] at e; exact absurd e kill_ne
        | nil =>
          rw [hks] at e
          have e : frD tr D (look s.fr) t = .ext r0 p t' xs := e
          rw [Z.eq, frD_app, frD_zero (c :: t2) fun b hb => ?_] at e
          · have hm := hasX_mem (frD_mem t1 T1 (fun b hb => (Z.f1 b hb).imp id (·.1)) look_mem e)
            unfold okX at e5
            rw [hm, hks] at e5
            have : kindO C c.o = 1 := Nat.eq_of_beq_eq_true (by simpa using e5)
            exact absurd this hk
          · rcases List.mem_cons.1 hb with rfl | hb
            · exact Z.no
            · cases hD : D b.i with
              | false => rfl
              | true => exact absurd (Z.f2 b hb hD).1 hk
      · rcases hp j (Nat.lt_of_lt_of_le hj hnf) with h | h
        · exact absurd h (okK_spec e2 hj)
        · rw [h]; exact hB j hj
end
end Go.Proofs.Ytnibdgjlbhdmfaa.Ev
