/- Regions whose operations may come in several orders: the trace of one order, and what of it is done ahead. -/
import Derived.Test.YtnibdgjlbhdmfaaEvZD
namespace Go.Proofs.Ytnibdgjlbhdmfaa.Ev
open Go
set_option linter.unusedVariables false
set_option linter.unusedSimpArgs false
/-- One operation, as it was walked. -/
structure Rec (Ty : Nat → Type) where
  i : Nat
  o : Oper
  s : St Ty
  wn : Bool
  r : EffR Ty
  ln : List (Nat × AV Ty)
section
variable {Ty : Nat → Type} (E : Tb Ty) (C : Cfg Ty)
def nxt (c : Rec Ty) : St Ty := ⟨putF c.o.dst c.r.1 (killF c.r.2.2 (c.ln ++ c.s.fr)), c.r.2.1⟩
def GuardIs (ops : Array Oper) (o : Oper) (fr : List (Nat × AV Ty)) (wn : Bool) : Prop := match o.guard with
  | none => wn = true
  | some (g, want) => ∃ t, (ops[g]?).bind (·.dst) = some t ∧ ((∃ b, look fr t = .v (.bool b) ∧ wn = decide (b = want)) ∨ ((∃ vs, look fr t = .v (.tuple vs)) ∧ wn = false))
structure RecOk (ops : Array Oper) (c : Rec Ty) : Prop where
  here : ops[c.i]? = some c.o
  d : okD C c.o.dst = true
  g : GuardIs ops c.o c.s.fr c.wn
  ln : ∀ x, x ∈ c.ln → look c.s.fr x.1 = x.2
  yes : c.wn = true → (opT E C ⟨restF c.o.op c.s.fr, c.s.hp⟩ c.o.dst c.o.op).val = some c.r ∧ okK C c.r.2.2 = true ∧ C.nf ≤ c.r.2.1.length ∧ okX C c.o c.r.2.2 c.s.fr = true
  no : c.wn = false → c.r = (.v undef, c.s.hp, [])
inductive Tr (ops : Array Oper) : St Ty → List (Rec Ty) → St Ty → Prop
  | nil (s : St Ty) : Tr ops s [] s
  | cons (c : Rec Ty) (l : List (Rec Ty)) (s' : St Ty) : RecOk E C ops c → Tr ops (nxt c) l s' → Tr ops c.s (c :: l) s'
def frD : List (Rec Ty) → (Nat → Bool) → (Nat → AV Ty) → Nat → AV Ty
  | [], D, f => f
  | c :: l, D, f => frD l D fun t => if D c.i = true then (if c.o.dst = some t then c.r.1 else killA c.r.2.2 (f t)) else f t
/-- What is gone by what was done. -/
def killsD : List (Rec Ty) → (Nat → Bool) → AV Ty → AV Ty
  | [], D, a => a
  | c :: l, D, a => killsD l D (if D c.i = true then killA c.r.2.2 a else a)
def hpD : List (Rec Ty) → (Nat → Bool) → Heap Ty → Heap Ty
  | [], D, h => h
  | c :: l, D, h => hpD l D (if D c.i = true ∧ kindO C c.o ≠ 1 then c.r.2.1 else h)
variable {E} {C}
variable {ops : Array Oper} {s s' : St Ty} {l l1 l2 : List (Rec Ty)} {D D' : Nat → Bool}
theorem look_ln {fr : List (Nat × AV Ty)} : ∀ (ln : List (Nat × AV Ty)), (∀ x, x ∈ ln → look fr x.1 = x.2) → ∀ t, look (ln ++ fr) t = look fr t
  | [], h, t => rfl
  | (j, a) :: l, h, t => by
    rw [List.cons_append, look_cons, look_ln l (fun x hx => h x (List.mem_cons_of_mem _ hx))]
    split
    · rename_i e; subst e; exact (h (t, a) List.mem_cons_self).symm
    · rfl
/-- What was looked at ahead is untouched. -/
def FarC (tb : List (Nat × List Nat)) (acc : List (Nat × Bool × List (AV Ty))) (b : Rec Ty) : Prop := b.r.2.2 ≠ [] → ∀ x, x ∈ acc → x.1 ∈ anc tb b.i ∨ ∀ a, a ∈ x.2.2 → touch b.r.2.2 a = false ∧ (x.2.1 = false → touch (zeroK b.r.2.2) a = false)
def FarT (tb : List (Nat × List Nat)) (tr : List (Rec Ty)) : Prop := ∀ l1 c l2 b l3, tr = l1 ++ c :: (l2 ++ b :: l3) → b.r.2.2 ≠ [] → c.i ∈ anc tb b.i ∨ ∀ a, a ∈ valsO c.o c.s → touch b.r.2.2 a = false ∧ (still c.o = false → touch (zeroK b.r.2.2) a = false)
theorem FarT.right {tb : List (Nat × List Nat)} {l1 l2 : List (Rec Ty)} (h : FarT tb (l1 ++ l2)) : FarT tb l2 := fun a c l b l3 e hb => h (l1 ++ a) c l b l3 (by rw [e, List.append_assoc]) hb
theorem one_tr {tb : List (Nat × List Nat)} {acc : List (Nat × Bool × List (AV Ty))} {o : Oper} {i : Nat} (hi : ops[i]? = some o) (h : (oneD E C ops tb acc i o s).val = some s') : ∃ c : Rec Ty, c.i = i ∧ c.o = o ∧ c.s = s ∧ RecOk E C ops c ∧ nxt c = s' ∧ FarC tb acc c := by
  have go : ∀ ln : List (Nat × AV Ty), (∀ x, x ∈ ln → look s.fr x.1 = x.2) → okD C o.dst = true → GuardIs ops o s.fr true → (goD E C tb acc i o ln s).val = some s' → ∃ c : Rec Ty, c.i = i ∧ c.o = o ∧ c.s = s ∧ RecOk E C ops c ∧ nxt c = s' ∧ FarC tb acc c := by
    intro ln hln hd hg h
    unfold goD at h
    rw [T.val_bind] at h
    obtain ⟨r, h1, h2⟩ := h
    split at h2
    · rename_i hc
      cases h2
      rw [Bool.and_eq_true, Bool.and_eq_true, Bool.and_eq_true] at hc
      refine ⟨⟨i, o, s, true, r, ln⟩, rfl, rfl, rfl, ⟨hi, hd, hg, hln, fun _ => ⟨h1, hc.1.1.1, Nat.le_of_ble_eq_true hc.1.1.2, hc.1.2⟩, fun h => (by cases h)⟩, rfl, fun hk x hx => ?_⟩
      have hf := hc.2
      unfold farO at hf
      split at hf
      · rename_i e; exact absurd e hk
      · rw [List.all_eq_true] at hf
        have := hf x hx
        rw [Bool.or_eq_true] at this
        rcases this with h | h
        · exact .inl (hasN_spec.1 h)
        · right
          rw [List.all_eq_true] at h
          intro a ha
          have := h a ha
          rw [Bool.and_eq_true, Bool.or_eq_true] at this
          refine ⟨by simpa using this.1, fun hs => ?_⟩
          rcases this.2 with h | h
          · rw [hs] at h; cases h
          · simpa using h
    · cases h2
  have skip : ∀ ln : List (Nat × AV Ty), (∀ x, x ∈ ln → look s.fr x.1 = x.2) → okD C o.dst = true → GuardIs ops o s.fr false → skipS o ⟨ln ++ s.fr, s.hp⟩ = s' → ∃ c : Rec Ty, c.i = i ∧ c.o = o ∧ c.s = s ∧ RecOk E C ops c ∧ nxt c = s' ∧ FarC tb acc c := by
    intro ln hln hd hg h
    exact ⟨⟨i, o, s, false, (.v undef, s.hp, []), ln⟩, rfl, rfl, rfl, ⟨hi, hd, hg, hln, fun h => (by cases h), fun _ => rfl⟩, h, fun hk => absurd rfl hk⟩
  unfold oneD at h
  split at h
  · rename_i hd
    split at h
    · rename_i hg
      exact go [] (fun x hx => by cases hx) hd (by unfold GuardIs; rw [hg]) h
    · rename_i g want hg
      split at h
      · rename_i t ht
        split at h
        · rename_i b hb
          rcases ite_val h with ⟨e, h⟩ | ⟨e, h⟩
          · exact go _ (fun x hx => by simp at hx; subst hx; rw [← e]; exact hb) hd (by unfold GuardIs; rw [hg]; exact ⟨t, ht, .inl ⟨b, hb, by simp [e]⟩⟩) h
          · cases h; exact skip [(t, .v (.bool (!want)))] (fun x hx => by simp at hx; subst hx; rw [hb]; cases b <;> cases want <;> first | rfl | exact absurd rfl e) hd (by unfold GuardIs; rw [hg]; exact ⟨t, ht, .inl ⟨b, hb, by simp [e]⟩⟩) rfl
        · split at h
          · rename_i hu
            unfold isU at hu
            split at hu
            · rename_i vs hvs
              cases h; exact skip [] (fun x hx => by cases hx) hd (by unfold GuardIs; rw [hg]; exact ⟨t, ht, .inr ⟨⟨vs, hvs⟩, rfl⟩⟩) rfl
            · cases hu
          · cases h
      · cases h
  · cases h
theorem tr_of {tb : List (Nat × List Nat)} : ∀ (ord : List Nat) (acc : List (Nat × Bool × List (AV Ty))) {s : St Ty}, (opsD E C ops tb ord acc s).val = some s' → ∃ tr, Tr E C ops s tr s' ∧ tr.map (·.i) = ord ∧ FarT tb tr ∧ ∀ b, b ∈ tr → FarC tb acc b
  | [], acc, s, h => by cases h; exact ⟨[], .nil _, rfl, fun l1 c l2 b l3 e => by simp at e, fun b hb => by cases hb⟩
  | i :: ord, acc, s, h => by
    unfold opsD at h
    split at h
    · rename_i o ho
      rw [T.val_bind] at h
      obtain ⟨s1, h1, h2⟩ := h
      obtain ⟨c, rfl, rfl, rfl, hc, rfl, hf⟩ := one_tr ho h1
      obtain ⟨tr, h3, h4, h5, h6⟩ := tr_of ord _ h2
      refine ⟨c :: tr, .cons c tr _ hc h3, by rw [List.map_cons, h4], fun l1 c' l2 b l3 e hb => ?_, fun b hb => ?_⟩
      · cases l1 with
        | nil =>
          simp only [List.nil_append, List.cons.injEq] at e
          obtain ⟨rfl, rfl⟩ := e
          exact h6 b (by simp) hb (c.i, still c.o, valsO c.o c.s) List.mem_cons_self
        | cons x l1 =>
          simp only [List.cons_append, List.cons.injEq] at e
          exact h5 l1 c' l2 b l3 e.2 hb
      · rcases List.mem_cons.1 hb with rfl | hb
        · exact hf
        · exact fun hk x hx => h6 b hb hk x (List.mem_cons_of_mem _ hx)
    · cases h
theorem Tr.split {c : Rec Ty} (h : Tr E C ops s (l1 ++ c :: l2) s') : Tr E C ops s l1 c.s ∧ RecOk E C ops c ∧ Tr E C ops (nxt c) l2 s' := by
  induction l1 generalizing s with
  | nil => cases h with | cons _ _ _ h1 h2 => exact ⟨.nil _, h1, h2⟩
  | cons b l1 ih =>
    cases h with
    | cons _ _ _ h1 h2 =>
      obtain ⟨h3, h4, h5⟩ := ih h2
      exact ⟨.cons b l1 _ h1 h3, h4, h5⟩
theorem op_pure {o : Oper} {dst : Option Nat} (hk : kindO C o = 1) : opT E C s dst o.op = pureR E s o.op := by
  unfold kindO at hk
  unfold opT
  generalize o.op = op at hk
  cases op <;> simp only at hk ⊢ <;> try (first | rfl | (cases hk; done))
  rename_i c
  split at hk
  · cases hk
  · rename_i f hc
    split at hk
    · cases hk
    · cases hk
  · rfl
theorem RecOk.hp1 {c : Rec Ty} (h : RecOk E C ops c) (hk : kindO C c.o = 1) : c.r.2.1 = c.s.hp := by
  cases hw : c.wn with
  | false => rw [h.no hw]
  | true =>
    obtain ⟨h1, _⟩ := h.yes hw
    rw [op_pure hk] at h1
    unfold pureR at h1
    rw [T.val_bind] at h1
    obtain ⟨a, _, h2⟩ := h1
    have := Option.some.inj h2
    rw [← this]
theorem RecOk.subX {c : Rec Ty} (h : RecOk E C ops c) (hk : kindO C c.o ≠ 3) : SubX c.r.2.2 c.s.hp c.r.2.1 := by
  by_cases h1 : kindO C c.o = 1
  · rw [h.hp1 h1]; exact (Sub.refl _).subX _
  · have h2 : kindO C c.o = 2 := by
      have : ∀ o : Oper, kindO C o = 1 ∨ kindO C o = 2 ∨ kindO C o = 3 := by
        intro o
        unfold kindO
        repeat' split
        all_goals simp
      rcases this c.o with h | h | h
      · exact absurd h h1
      · exact h
      · exact absurd h hk
    cases hw : c.wn with
    | false => rw [h.no hw]; exact (Sub.refl _).subX _
    | true => exact op_subX (h.yes hw).1 h2
theorem RecOk.ks1 {c : Rec Ty} (h : RecOk E C ops c) (hk : kindO C c.o = 1) : c.r.2.2 = [] := by
  cases hw : c.wn with
  | false => rw [h.no hw]
  | true =>
    obtain ⟨h1, _⟩ := h.yes hw
    rw [op_pure hk] at h1
    unfold pureR at h1
    rw [T.val_bind] at h1
    obtain ⟨a, _, h2⟩ := h1
    have := Option.some.inj h2
    rw [← this]
theorem look_put (o : Option Nat) (x : AV Ty) (fr : List (Nat × AV Ty)) (t : Nat) : look (putF o x fr) t = if o = some t then x else look fr t := by
  cases o with
  | none => simp [putF]
  | some d =>
    unfold putF
    rw [look_cons]
    by_cases e : t = d
    · subst e; simp
    · rw [if_neg e, if_neg (fun h => e (Option.some.inj h).symm)]
theorem hasX_mem {fr : List (Nat × AV Ty)} {t r0 : Nat} {p : Path} {t' : Nat} {xs : List (Ty t')} (h : (t, AV.ext r0 p t' xs) ∈ fr) : hasX fr = true := by
  induction fr with
  | nil => cases h
  | cons x l ih =>
    obtain ⟨j, a⟩ := x
    unfold hasX
    split
    · rfl
    · rename_i ha
      rcases List.mem_cons.1 h with e | h
      · cases e; cases ha
      · exact ih h
theorem look_mem {fr : List (Nat × AV Ty)} {t r0 : Nat} {p : Path} {t' : Nat} {xs : List (Ty t')} (h : look fr t = .ext r0 p t' xs) : (t, AV.ext r0 p t' xs) ∈ fr := by
  induction fr with
  | nil => cases h
  | cons x l ih =>
    obtain ⟨j, a⟩ := x
    rw [look_cons] at h
    split at h
    · rename_i e; subst e; rw [h]; exact List.mem_cons_self
    · exact List.mem_cons_of_mem _ (ih h)
/-- A row that waits stands in the written order's frame, too, where all that touches memory is done. -/
theorem frD_mem {t r0 : Nat} {p : Path} {t' : Nat} {xs : List (Ty t')} : ∀ (l : List (Rec Ty)) {s : St Ty} {f : Nat → AV Ty}, Tr E C ops s l s' → (∀ c, c ∈ l → D c.i = true ∨ kindO C c.o = 1) → (f t = .ext r0 p t' xs → (t, AV.ext r0 p t' xs) ∈ s.fr) → frD l D f t = .ext r0 p t' xs → (t, AV.ext r0 p t' xs) ∈ s'.fr
  | [], s, f, T, h, h0, e => by cases T; exact h0 e
  | c :: l, s, f, T, h, h0, e => by
    cases T with
    | cons _ _ _ h1 h2 =>
      refine frD_mem l h2 (fun b hb => h b (List.mem_cons_of_mem _ hb)) (fun e => ?_) e
      have keep : c.r.2.2 = [] → (t, AV.ext r0 p t' xs) ∈ c.s.fr → (t, AV.ext r0 p t' xs) ∈ (nxt c).fr := fun hk hm => by
        unfold nxt
        simp only
        rw [hk]
        show _ ∈ putF c.o.dst c.r.1 (c.ln ++ c.s.fr)
        have hm := List.mem_append_right c.ln hm
        cases c.o.dst with
        | none => exact hm
        | some d => exact List.mem_cons_of_mem _ hm
      by_cases hD : D c.i = true
      · rw [if_pos hD] at e
        by_cases hd : c.o.dst = some t
        · rw [if_pos hd] at e
          unfold nxt
          simp only
          rw [hd, e]
          exact List.mem_cons_self
        · rw [if_neg hd] at e
          cases hks : c.r.2.2 with
          | nil => rw [hks] at e; exact keep hks (h0 e)
          | cons k l => rw [hks] at e; exact absurd e kill_ne
      · rw [if_neg hD] at e
        exact keep (h1.ks1 ((h c List.mem_cons_self).resolve_left hD)) (h0 e)
theorem frD_app : ∀ (l1 l2 : List (Rec Ty)) (D : Nat → Bool) (f : Nat → AV Ty), frD (l1 ++ l2) D f = frD l2 D (frD l1 D f)
  | [], l2, D, f => rfl
  | c :: l1, l2, D, f => frD_app l1 l2 D _
theorem hpD_app : ∀ (l1 l2 : List (Rec Ty)) (D : Nat → Bool) (h : Heap Ty), hpD C (l1 ++ l2) D h = hpD C l2 D (hpD C l1 D h)
  | [], l2, D, f => rfl
  | c :: l1, l2, D, f => hpD_app l1 l2 D _
theorem frD_congr {t : Nat} : ∀ (l : List (Rec Ty)) {f f' : Nat → AV Ty}, (∀ c, c ∈ l → D c.i = D' c.i) → f t = f' t → frD l D f t = frD l D' f' t
  | [], f, f', h, e => e
  | c :: l, f, f', h, e => frD_congr l (fun b hb => h b (List.mem_cons_of_mem _ hb)) (by rw [h c List.mem_cons_self, e])
theorem frD_zero {t : Nat} : ∀ (l : List (Rec Ty)) {f : Nat → AV Ty}, (∀ c, c ∈ l → D c.i = false) → frD l D f t = f t
  | [], f, h => rfl
  | c :: l, f, h => by
    unfold frD
    rw [frD_zero l fun b hb => h b (List.mem_cons_of_mem _ hb), h c List.mem_cons_self]
    rfl
theorem hpD_congr : ∀ (l : List (Rec Ty)) {h : Heap Ty}, (∀ c, c ∈ l → D c.i = D' c.i) → hpD C l D h = hpD C l D' h
  | [], h, e => rfl
  | c :: l, h, e => by
    unfold hpD
    rw [e c List.mem_cons_self]
    exact hpD_congr l fun b hb => e b (List.mem_cons_of_mem _ hb)
theorem frD_none {t : Nat} : ∀ (l : List (Rec Ty)) {f : Nat → AV Ty}, (∀ c, c ∈ l → D c.i = true → c.o.dst ≠ some t) → frD l D f t = killsD l D (f t)
  | [], f, h => rfl
  | c :: l, f, h => by
    unfold frD killsD
    rw [frD_none l fun b hb => h b (List.mem_cons_of_mem _ hb)]
    by_cases e : D c.i = true
    · rw [if_pos e, if_pos e, if_neg (h c List.mem_cons_self e)]
    · rw [if_neg e, if_neg e]
theorem killsD_same : ∀ (l : List (Rec Ty)) {a : AV Ty}, (∀ c, c ∈ l → D c.i = true → killA c.r.2.2 a = a) → killsD l D a = a
  | [], a, h => rfl
  | c :: l, a, h => by
    unfold killsD
    by_cases e : D c.i = true
    · rw [if_pos e, h c List.mem_cons_self e]
      exact killsD_same l fun b hb => h b (List.mem_cons_of_mem _ hb)
    · rw [if_neg e]
      exact killsD_same l fun b hb => h b (List.mem_cons_of_mem _ hb)
theorem kill_v (ks : List (Nat × Nat)) (v : Value) : killA ks (.v v : AV Ty) = .v v := by cases ks <;> rfl
theorem kill_dead (ks : List (Nat × Nat)) : killA ks (.dead : AV Ty) = .dead := by cases ks <;> rfl
theorem hpD_none : ∀ (l : List (Rec Ty)) {h : Heap Ty}, (∀ c, c ∈ l → D c.i = true → kindO C c.o = 1) → hpD C l D h = h
  | [], h, e => rfl
  | c :: l, h, e => by
    unfold hpD
    rw [if_neg fun q => q.2 (e c List.mem_cons_self q.1)]
    exact hpD_none l fun b hb => e b (List.mem_cons_of_mem _ hb)
theorem frD_full {t : Nat} : ∀ (l : List (Rec Ty)) {s : St Ty} {f : Nat → AV Ty}, Tr E C ops s l s' → (∀ c, c ∈ l → D c.i = true ∨ (kindO C c.o = 1 ∧ c.o.dst ≠ some t)) → f t = look s.fr t → frD l D f t = look s'.fr t
  | [], s, f, T, h, e => by cases T; exact e
  | c :: l, s, f, T, h, e => by
    cases T with
    | cons _ _ _ h1 h2 =>
      refine frD_full l h2 (fun b hb => h b (List.mem_cons_of_mem _ hb)) ?_
      unfold nxt
      simp only
      rw [look_put, look_kill, look_ln _ h1.ln]
      rcases h c List.mem_cons_self with hd | ⟨hk, hd⟩
      · rw [if_pos hd, e]
      · rw [h1.ks1 hk]
        simp only [if_neg hd]
        by_cases hD : D c.i = true
        · rw [if_pos hD, e]
        · rw [if_neg hD]; exact e
theorem hpD_full : ∀ (l : List (Rec Ty)) {s : St Ty}, Tr E C ops s l s' → (∀ c, c ∈ l → D c.i = true ∨ kindO C c.o = 1) → hpD C l D s.hp = s'.hp
  | [], s, T, h => by cases T; rfl
  | c :: l, s, T, h => by
    cases T with
    | cons _ _ _ h1 h2 =>
      have ih := hpD_full l h2 (fun b hb => h b (List.mem_cons_of_mem _ hb))
      unfold hpD
      have : (if D c.i = true ∧ kindO C c.o ≠ 1 then c.r.2.1 else c.s.hp) = (nxt c).hp := by
        unfold nxt
        simp only
        by_cases h1' : kindO C c.o = 1
        · rw [if_neg (fun q => q.2 h1'), h1.hp1 h1']
        · rw [if_pos ⟨(h c List.mem_cons_self).resolve_right h1', h1'⟩]
      rw [this]
      exact ih
theorem hpD_sub {h0 : Heap Ty} {Bd : Rec Ty → Prop} : ∀ (l : List (Rec Ty)) {s : St Ty} {h : Heap Ty}, Tr E C ops s l s' →
    (∀ l1 c l2, l = l1 ++ c :: l2 → D c.i = true → kindO C c.o ≠ 1 → kindO C c.o ≠ 3 ∧ ∀ b, b ∈ l1 → kindO C b.o ≠ 1 → D b.i = true) → (∀ c, c ∈ l → D c.i = true → Bd c) →
    (∀ r R, root h0 r = some R → root h r = some R ∨ ∃ b, Bd b ∧ ∃ d, (r, d) ∈ b.r.2.2) → (∀ r R, root h0 r = some R → root s.hp r = some R ∨ ∃ b, Bd b ∧ ∃ d, (r, d) ∈ b.r.2.2) → ∀ r R, root h0 r = some R → root (hpD C l D h) r = some R ∨ ∃ b, Bd b ∧ ∃ d, (r, d) ∈ b.r.2.2
  | [], s, h, T, hd, hb, q1, q2 => q1
  | c :: l, s, h, T, hd, hb, q1, q2 => by
    cases T with
    | cons _ _ _ h1 h2 =>
      unfold hpD
      have tail : ∀ l1 d l2, l = l1 ++ d :: l2 → D d.i = true → kindO C d.o ≠ 1 → kindO C d.o ≠ 3 ∧ ∀ b, b ∈ l1 → kindO C b.o ≠ 1 → D b.i = true := fun l1 d l2 e hD hk => by
        obtain ⟨k1, k2⟩ := hd (c :: l1) d l2 (by rw [e]; rfl) hD hk
        exact ⟨k1, fun x hx => k2 x (List.mem_cons_of_mem _ hx)⟩
      have tb : ∀ d, d ∈ l → D d.i = true → Bd d := fun d hd' => hb d (List.mem_cons_of_mem _ hd')
      by_cases h1' : kindO C c.o = 1
      · rw [if_neg (fun q => q.2 h1')]
        refine hpD_sub l h2 tail tb q1 ?_
        show ∀ r R, root h0 r = some R → root c.r.2.1 r = some R ∨ _
        rw [h1.hp1 h1']
        exact q2
      · by_cases hD : D c.i = true
        · rw [if_pos ⟨hD, h1'⟩]
          have h3 := (hd [] c l rfl hD h1').1
          have q3 : ∀ r R, root h0 r = some R → root c.r.2.1 r = some R ∨ ∃ b, Bd b ∧ ∃ d, (r, d) ∈ b.r.2.2 := fun r R e => by
            rcases q2 r R e with h | h
            · exact (h1.subX h3 r R h).imp id fun h => ⟨c, hb c List.mem_cons_self hD, h⟩
            · exact .inr h
          exact hpD_sub l h2 tail tb q3 q3
        · have : ∀ b, b ∈ l → D b.i = true → kindO C b.o = 1 := fun b hb hD' => by
            by_cases hk : kindO C b.o = 1
            · exact hk
            · obtain ⟨x, y, e⟩ := List.append_of_mem hb
              exact absurd ((hd (c :: x) b y (by rw [e]; rfl) hD' hk).2 c List.mem_cons_self h1') hD
          rw [hpD_none l this, if_neg (fun q => hD q.1)]
          exact q1
end
end Go.Proofs.Ytnibdgjlbhdmfaa.Ev
