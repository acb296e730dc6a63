/- The frame's slots; operations one behind the other. -/
import Derived.Test.YtnibdgjlbhdmfaaEvW
namespace Go.Proofs.Ytnibdgjlbhdmfaa.Ev
open Go
set_option linter.unusedVariables false
set_option linter.unusedSimpArgs false
section
variable {Ty : Nat → Type} (E : Tb Ty) (C : Cfg Ty)
/-- A slot's value: an appended row that waits to be stored is one. -/
def FRep (X : Set2) (W0 : World) (F : Set2) (w : World) (hp : Heap Ty) (vals : Nat → Value) (sets : Nat → Set2) (v : Value) (a : AV Ty) : Prop :=
  VRep E F w hp vals v a ∧ ∀ r p t xs, a = .ext r p t xs → OvOk E X W0 F w hp vals sets v r p t xs
/-- The abstract state stands for the frame and the world. -/
structure SRep (X : Set2) (W0 : World) (F0 : Set2) (B : Nat → Value) (s : St Ty) (a : Act) (w : World) : Prop where
  ex : ∃ F vals sets, Inv E X W0 F w s.hp vals sets ∧ (∀ t, FRep E X W0 F w s.hp vals sets (a.tmps.getD t undef) (look s.fr t)) ∧ (∀ j, j < C.nf → vals j = B j) ∧ Grow X W0 F0 F
  size : a.tmps.size = C.nt
  defs : a.defers = []
  nf : C.nf ≤ s.hp.length
variable {E} {C}
variable {X : Set2} {W0 : World} {F0 F F' : Set2} {B : Nat → Value} {w w' : World} {hp hp' : Heap Ty} {vals vals' : Nat → Value} {sets sets' : Nat → Set2} {P : Program} {ρ : Operand → Value} {s : St Ty} {a : Act}
theorem lit_ok (F : Set2) (w : World) (hp : Heap Ty) (vals : Nat → Value) (x : Value) : VRep E F w hp vals x (lit x) := by
  unfold lit
  split
  · rename_i cs
    refine .agg cs _ (by simp) (fun i v a h1 h2 => ?_)
    simp only [List.getElem?_map, Array.getElem?_toList, h1, Option.map_some, Option.some.injEq] at h2
    subst h2
    exact .rep _ _ (.v _)
  · exact .rep _ _ (.v _)
theorem op_rep {fr : List (Nat × AV Ty)} (h : ∀ t, VRep E F w hp vals (a.tmps.getD t undef) (look fr t)) (x : Operand) : VRep E F w hp vals (a.eval x) (opA fr x) := by
  cases x with
  | tmp t => exact h t
  | const v => exact lit_ok F w hp vals v
  | func f => exact .rep _ _ (.v _)
  | global g => exact .dead _
theorem op_repX {fr : List (Nat × AV Ty)} (h : ∀ t, FRep E X W0 F w hp vals sets (a.tmps.getD t undef) (look fr t)) (x : Operand) (r : Nat) (p : Path) (t : Nat) (xs : List (Ty t)) (e : opA fr x = .ext r p t xs) : OvOk E X W0 F w hp vals sets (a.eval x) r p t xs := by
  cases x with
  | tmp t' => exact (h t').2 r p t xs e
  | const v =>
    have e : lit v = AV.ext r p t xs := e
    unfold lit at e
    split at e <;> cases e
  | func f => cases e
  | global g => cases e
theorem hasX_look {fr : List (Nat × AV Ty)} (h : hasX fr = false) (t r : Nat) (p : Path) (t' : Nat) (xs : List (Ty t')) : look fr t ≠ .ext r p t' xs := by
  induction fr with
  | nil => simp [look]
  | cons x l ih =>
    obtain ⟨j, a⟩ := x
    unfold hasX at h
    split at h
    · cases h
    · rename_i ha
      unfold look
      split
      · intro e; subst e; cases ha
      · exact ih h
theorem kill_ne {k : Nat × Nat} {l : List (Nat × Nat)} {a : AV Ty} {r : Nat} {p : Path} {t : Nat} {xs : List (Ty t)} : killA (k :: l) a ≠ .ext r p t xs := by
  have h0 : ∀ a : AV Ty, kill0 (k :: l) a ≠ .ext r p t xs := by
    intro a
    cases a <;> simp only [kill0, ne_eq, reduceCtorEq, not_false_eq_true] <;> split <;> simp
  have h1 : ∀ a : AV Ty, kill1 (k :: l) a ≠ .ext r p t xs := by
    intro a
    cases a <;> first | (simp only [kill1]; exact h0 _) | simp [kill1]
  show killB (k :: l) a ≠ _
  cases a <;> first | (simp only [killB]; exact h1 _) | simp [killB]
theorem Rep.noExt {v : Value} {r : Nat} {p : Path} {t : Nat} {xs : List (Ty t)} (h : Rep E F w v (.ext r p t xs)) : False := by
  generalize e : AV.ext r p t xs = a at h
  cases h <;> cases e
theorem FRep.of {v : Value} {a : AV Ty} (h : VRep E F w hp vals v a) (hn : ∀ r p t xs, a ≠ .ext r p t xs) : FRep E X W0 F w hp vals sets v a := ⟨h, fun r p t xs e => absurd e (hn r p t xs)⟩
theorem FRep.unit (v : Value) : FRep E X W0 F w hp vals sets v (.v v) := ⟨.rep _ _ (.v _), fun _ _ _ _ e => by cases e⟩
theorem look_cons (d t : Nat) (x : AV Ty) (fr : List (Nat × AV Ty)) : look ((d, x) :: fr) t = if t = d then x else look fr t := by
  show (match Nat.beq t d with | true => x | false => look fr t) = _
  by_cases h : t = d
  · subst h; simp [Nat.beq_refl]
  · have : Nat.beq t d = false := by
      cases e : Nat.beq t d with
      | false => rfl
      | true => exact absurd (Nat.eq_of_beq_eq_true e) h
    rw [this, if_neg h]
theorem look_map (f : AV Ty → AV Ty) (hd : f .dead = .dead) (t : Nat) : ∀ (fr : List (Nat × AV Ty)), look (fr.map fun (j, a) => (j, f a)) t = f (look fr t)
  | [] => hd.symm
  | (j, x) :: l => by
    rw [List.map_cons, look_cons, look_cons, look_map f hd t l]
    split <;> rfl
theorem look_kill (ks : List (Nat × Nat)) (fr : List (Nat × AV Ty)) (t : Nat) : look (killF ks fr) t = killA ks (look fr t) := by
  cases ks with
  | nil => rfl
  | cons k l => exact look_map (killA (k :: l)) rfl t fr
theorem put_get (a : Act) (d t : Nat) (v : Value) (h : d < a.tmps.size) : (a.put (some d) v).tmps.getD t undef = if t = d then v else a.tmps.getD t undef := by
  by_cases e : t = d
  · subst e
    simp [Act.put, h]
  · rw [if_neg e]
    simp [Act.put, Array.getElem?_setIfInBounds_ne (Ne.symm e)]
theorem put_ok {Pr : Value → AV Ty → Prop} {o : Option Nat} {v : Value} {x : AV Ty} {fr : List (Nat × AV Ty)} (hd : okD C o = true) (hs : a.tmps.size = C.nt) (hv : Pr v x) (h : ∀ t, Pr (a.tmps.getD t undef) (look fr t)) (t : Nat) :
    Pr ((a.put o v).tmps.getD t undef) (look (putF o x fr) t) := by
  cases o with
  | none => exact h t
  | some d =>
    have hlt : d < a.tmps.size := by rw [hs]; exact Nat.le_of_ble_eq_true hd
    rw [put_get _ _ _ _ hlt]
    unfold putF
    rw [look_cons]
    split
    · exact hv
    · exact h t
theorem put_size (a : Act) (o : Option Nat) (v : Value) : (a.put o v).tmps.size = a.tmps.size := by cases o <;> simp [Act.put]
theorem put_defers (a : Act) (o : Option Nat) (v : Value) : (a.put o v).defers = a.defers := by cases o <;> rfl
theorem okK_spec {ks : List (Nat × Nat)} (h : okK C ks = true) {j : Nat} (hj : j < C.nf) : (j, 0) ∉ ks := by
  induction ks with
  | nil => simp
  | cons k l ih =>
    obtain ⟨r, d⟩ := k
    unfold okK at h
    rw [Bool.and_eq_true, Bool.or_eq_true] at h
    intro hm
    rcases List.mem_cons.1 hm with e | e
    · injection e with e1 e2
      subst e1 e2
      rcases h.1 with h | h
      · have := Nat.le_of_ble_eq_true h; omega
      · have := Nat.le_of_ble_eq_true h; omega
    · exact ih h.2 e
/-- What a step leaves of a slot. -/
theorem step_frep {o : Oper} {ks : List (Nat × Nat)} {fr : List (Nat × AV Ty)} (hx : okX C o ks fr = true) {t : Nat} {v : Value} (h : FRep E X W0 F w hp vals sets v (look fr t)) (hs : ∀ u a, VRep E F w hp vals u a → VRep E F' w' hp' vals' u (killA ks a))
    (hpr : kindO C o = 1 → ∀ u r0 p t xs, OvOk E X W0 F w hp vals sets u r0 p t xs → OvOk E X W0 F' w' hp' vals' sets' u r0 p t xs) : FRep E X W0 F' w' hp' vals' sets' v (killA ks (look fr t)) := by
  refine ⟨hs _ _ h.1, fun r p t' xs e => ?_⟩
  cases ks with
  | cons k l => exact absurd e kill_ne
  | nil =>
    unfold okX at hx
    rw [Bool.or_eq_true] at hx
    rcases hx with hx | hx
    · exact absurd e (hasX_look (by simpa using hx) t r p t' xs)
    · exact hpr (Nat.eq_of_beq_eq_true hx) _ _ _ _ _ (h.2 r p t' xs e)
theorem go_ok (K : TbOk E P) (G : Good E) (hS : SOk E C P) (R : SRep E C X W0 F0 B s a w) {o : Oper} {s' : St Ty} (h : (goT E C o s).val = some s') {Kt : Act → World → Prop} {Q : Exit → Act → World → Prop}
    (hK : ∀ a' w', SRep E C X W0 F0 B s' a' w' → Kt a' w') : o.wp P a w Kt Q := by
  unfold goT at h
  rw [T.val_bind] at h
  obtain ⟨r, h1, h2⟩ := h
  split at h2
  · rename_i hc
    cases h2
    rw [Bool.and_eq_true, Bool.and_eq_true, Bool.and_eq_true] at hc
    obtain ⟨⟨F, vals, sets, I, hf, hB, hG⟩, hsz, hdf, hnf⟩ := R
    refine op_ok K G hS I (op_rep fun t => (hf t).1) (op_repX hf) o h1 fun v w' A => hK _ _ ?_
    obtain ⟨F', vals', sets', I', hv, hs, hp, hg, hx, hpr⟩ := A
    refine ⟨⟨F', vals', sets', I', put_ok (Pr := FRep E X W0 F' w' r.2.1 vals' sets') hc.1.1.2 hsz ⟨hv, hx⟩ fun t => ?_, fun j hj => ?_, hG.trans hg⟩, by rw [put_size, hsz], by rw [put_defers, hdf], Nat.le_of_ble_eq_true hc.1.2⟩
    · rw [look_kill]
      exact step_frep hc.2 (hf t) hs hpr
    · rcases hp j (Nat.lt_of_lt_of_le hj hnf) with h | h
      · exact absurd h (okK_spec hc.1.1.1 hj)
      · rw [h]; exact hB j hj
  · cases h2
theorem SRep.skip (R : SRep E C X W0 F0 B s a w) (o : Oper) (hd : okD C o.dst = true) : SRep E C X W0 F0 B (skipS o s) (a.put o.dst undef) w := by
  obtain ⟨⟨F, vals, sets, I, hf, hB, hG⟩, hsz, hdf, hnf⟩ := R
  exact ⟨⟨F, vals, sets, I, put_ok (Pr := FRep E X W0 F w s.hp vals sets) hd hsz (.unit _) hf, hB, hG⟩, by rw [put_size, hsz], by rw [put_defers, hdf], hnf⟩
theorem SRep.learn (R : SRep E C X W0 F0 B s a w) {t : Nat} {v : Value} (h : look s.fr t = .v v) (u : Value) (hu : v = u) : SRep E C X W0 F0 B ⟨(t, .v u) :: s.fr, s.hp⟩ a w := by
  subst hu
  obtain ⟨⟨F, vals, sets, I, hf, hB, hG⟩, hsz, hdf, hnf⟩ := R
  refine ⟨⟨F, vals, sets, I, fun t' => ?_, hB, hG⟩, hsz, hdf, hnf⟩
  rw [look_cons]
  split
  · rename_i e; subst e; rw [← h]; exact hf t'
  · exact hf t'
theorem SRep.val (R : SRep E C X W0 F0 B s a w) {t : Nat} {v : Value} (h : look s.fr t = .v v) : a.tmps.getD t undef = v := by
  obtain ⟨⟨F, vals, sets, I, hf, hB, hG⟩, hsz, hdf, hnf⟩ := R
  have := (hf t).1
  rw [h] at this
  exact this.v
theorem yield_of {ops : Array Oper} {g t : Nat} {a : Act} (h : (ops[g]?).bind (·.dst) = some t) : yielded ops a.tmps g = match a.tmps.getD t undef with
    | .bool b => some b
    | _ => none := by
  unfold yielded
  rw [h]
  simp only [Option.bind_some]
  rcases Nat.lt_or_ge t a.tmps.size with hl | hl
  · rw [show a.tmps.getD t undef = a.tmps[t] by simp [Array.getD, hl], Array.getElem?_eq_getElem hl]
    cases a.tmps[t] <;> rfl
  · simp only [Array.getElem?_eq_none hl, Array.getD, Nat.not_lt.2 hl, dite_false]
    rfl
theorem one_ok (K : TbOk E P) (G : Good E) (hS : SOk E C P) (R : SRep E C X W0 F0 B s a w) {ops : Array Oper} {i : Nat} {o : Oper} (ho : ops[i]? = some o) {s' : St Ty} (h : (oneT E C ops o s).val = some s') {Kt : Act → World → Prop} {Q : Exit → Act → World → Prop}
    (hK : ∀ a' w', SRep E C X W0 F0 B s' a' w' → Kt a' w') : wpOp P ops Q i Kt a w := by
  unfold wpOp
  simp only [ho]
  unfold oneT at h
  split at h
  · rename_i hd
    split at h
    · rename_i hg
      have : Region.wanted o (yielded ops a.tmps) = true := by simp [Region.wanted, hg]
      rw [this, if_pos rfl]
      exact .inl (go_ok K G hS R h hK)
    · rename_i g want hg
      split at h
      · rename_i t ht
        have hy := yield_of (a := a) ht
        split at h
        · rename_i b hb
          rw [R.val hb] at hy
          rcases ite_val h with ⟨e, h⟩ | ⟨e, h⟩
          · have : Region.wanted o (yielded ops a.tmps) = true := by simp [Region.wanted, hg, hy, e]
            rw [this, if_pos rfl]
            exact .inl (go_ok K G hS (R.learn hb (.bool want) (by rw [e])) h hK)
          · have : Region.wanted o (yielded ops a.tmps) = false := by simp [Region.wanted, hg, hy, e]
            rw [this, if_neg (by simp)]
            cases h
            exact hK _ _ (SRep.skip (R.learn hb (.bool (!want)) (by cases b <;> cases want <;> first | rfl | exact absurd rfl e)) o hd)
        · rename_i x hx
          split at h
          · rename_i hu
            unfold isU at hu
            split at hu
            · rename_i vs hvs
              rw [R.val hvs] at hy
              have : Region.wanted o (yielded ops a.tmps) = false := by simp [Region.wanted, hg, hy]
              rw [this, if_neg (by simp)]
              cases h
              exact hK _ _ (R.skip o hd)
            · cases hu
          · cases h
      · cases h
  · cases h
theorem ops_ok (K : TbOk E P) (G : Good E) (hS : SOk E C P) {ops : Array Oper} {Q : Exit → Act → World → Prop} : ∀ (l : List Nat) {s : St Ty} {a : Act} {w : World}, SRep E C X W0 F0 B s a w → ∀ {s' : St Ty}, (opsT E C ops l s).val = some s' →
    (∀ a' w', SRep E C X W0 F0 B s' a' w' → Q .normal a' w') → wpOps P ops Q l a w
  | [], s, a, w, R, s', h, hQ => by
    cases h
    exact hQ _ _ R
  | i :: l, s, a, w, R, s', h, hQ => by
    rw [wpOps_cons]
    unfold opsT at h
    split at h
    · rename_i o ho
      rw [T.val_bind] at h
      obtain ⟨s1, h1, h2⟩ := h
      exact one_ok K G hS R ho h1 fun a' w' R' => ops_ok K G hS l R' h2 hQ
    · cases h
end
end Go.Proofs.Ytnibdgjlbhdmfaa.Ev
