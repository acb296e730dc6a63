/- A call comes to what the evaluator says. -/
import Derived.Test.YtnibdgjlbhdmfaaEvU
namespace Go.Proofs.Ytnibdgjlbhdmfaa.Ev
open Go
set_option linter.unusedVariables false
set_option linter.unusedSimpArgs false
section
variable {Ty : Nat → Type} {E : Tb Ty}
variable {X : Set2} {W0 : World} {F F' : Set2} {w w' : World} {hp hp' : Heap Ty} {vals vals' : Nat → Value} {sets sets' : Nat → Set2} {P : Program} {ρ : Operand → Value}
theorem restore_len : ∀ (rs : List (Option Nat)) (hp : Heap Ty) (outs : List (AV Ty)), (restore hp rs outs).length = hp.length
  | [], hp, outs => by unfold restore; rfl
  | none :: rs, hp, [] => by unfold restore; rfl
  | some r :: rs, hp, [] => by unfold restore; rfl
  | none :: rs, hp, a :: l => by unfold restore; exact restore_len rs hp l
  | some r :: rs, hp, a :: l => by
    cases a <;> (unfold restore; first | exact restore_len rs hp l | (rw [restore_len rs _ l, List.length_set]))
theorem restore_out : ∀ (rs : List (Option Nat)) (hp : Heap Ty) (outs : List (AV Ty)) (q : Nat), (∀ (i : Nat), rs[i]? ≠ some (some q)) → root (restore hp rs outs) q = root hp q
  | [], hp, outs, q, h => by unfold restore; rfl
  | none :: rs, hp, [], q, h => by unfold restore; rfl
  | some r :: rs, hp, [], q, h => by unfold restore; rfl
  | none :: rs, hp, a :: l, q, h => by unfold restore; exact restore_out rs hp l q (fun i e => h (i + 1) (by simpa using e))
  | some r :: rs, hp, a :: l, q, h => by
    have h' : ∀ (i : Nat), rs[i]? ≠ some (some q) := fun i e => h (i + 1) (by simpa using e)
    have hne : r ≠ q := fun e => h 0 (by simp [e])
    cases a <;> (unfold restore; first | exact restore_out rs hp l q h' | (rw [restore_out rs _ l q h', root_set, if_neg hne]))
theorem restore_in : ∀ (rs : List (Option Nat)) (hp : Heap Ty) (outs : List (AV Ty)) (q i : Nat) (m : Bool) (t : Nat) (x : Ty t), rs[i]? = some (some q) → (∀ (i' : Nat), rs[i']? = some (some q) → i' = i) → outs[i]? = some (.box m t x) → q < hp.length → root (restore hp rs outs) q = some ⟨t, m, [x]⟩
  | [], hp, outs, q, i, m, t, x, h, _, _, _ => by simp at h
  | r :: rs, hp, [], q, i, m, t, x, h, _, h2, _ => by simp at h2
  | none :: rs, hp, a :: l, q, i, m, t, x, h, hu, h2, hq => by
    cases i with
    | zero => simp at h
    | succ i => unfold restore; exact restore_in rs hp l q i m t x (by simpa using h) (fun i' e => by have := hu (i' + 1) (by simpa using e); omega) (by simpa using h2) hq
  | some r :: rs, hp, a :: l, q, i, m, t, x, h, hu, h2, hq => by
    cases i with
    | zero =>
      simp at h h2
      subst h h2
      unfold restore
      rw [restore_out rs _ l r (fun i' e => by have := hu (i' + 1) (by simpa using e); omega), root_set, if_pos rfl, if_pos hq]
    | succ i =>
      have h' : rs[i]? = some (some q) := by simpa using h
      have hu' : ∀ (i' : Nat), rs[i']? = some (some q) → i' = i := fun i' e => by have := hu (i' + 1) (by simpa using e); omega
      have h2' : l[i]? = some (.box m t x) := by simpa using h2
      cases a <;> (unfold restore; first | exact restore_in rs hp l q i m t x h' hu' h2' hq | (exact restore_in rs _ l q i m t x h' hu' h2' (by rw [List.length_set]; exact hq)))
theorem Rep.eqv {v x : Value} (h : Rep E F w v (.v x : AV Ty)) : v = x := by
  cases h
  rfl
theorem Own.weaken (G : Good E) {v : Value} {t : Nat} {xs : List (Ty t)} {S : Set2} {m : Bool} (h : Own E F w m v t xs S) (hm : m = true) (hs : E.sole t = true) (hF : ∀ b j, F' b j → F b j) : Own E F' w m v t xs S := by
  subst hm
  induction h with
  | nil A t S h => exact .nil A t S h
  | row b off c t xs g B S h1 h2 h3 h4 h5 h6 h7 h8 h9 ih =>
    refine .row b off c t xs g B S h1 (fun j hj => ⟨(h2 j hj).1, (h2 j hj).2.1, fun h => (h2 j hj).2.2 (hF _ _ h)⟩) h3 (fun i x o a e1 e2 e3 => ?_) (fun i x o t' ys e1 e2 => ?_) h6 h7 h8 h9
    · rcases G.sole t hs x a (List.mem_of_getElem? e2) with ⟨y, rfl⟩ | ⟨t', ys, rfl, _⟩
      · rw [(h4 i x o _ e1 e2 e3).eqv]
        exact .v _
      · exact absurd trivial e3
    · rcases G.sole t hs x _ (List.mem_of_getElem? e2) with ⟨y, hy⟩ | ⟨t2, ys2, hy, hs2⟩
      · cases hy
      · cases hy
        exact ih i x o t' ys e1 e2 hs2
theorem ResOk.same (G : Good E) {v : Value} {a : AV Ty} {S : Set2} (h : ResOk E F w v a S) (hF : ∀ b j, F b j → F' b j) (hF' : ∀ b j, F' b j → F b j) : ResOk E F' w v a S := by
  induction h with
  | v x S h => exact .v x S h
  | fr v t xs S h hS => exact .fr v t xs S (h.stable fun b j h => ⟨hF b j h, rfl⟩) hS
  | own v t xs S h => exact .own v t xs S (h.stable (w := w) (w' := w) G (fun b j h => ⟨hF b j h, rfl⟩) (fun b j h => ⟨rfl, rfl⟩) (fun b j _ h => hF' b j h))
  | box b off c m t x S h => exact .box b off c m t x S (h.stable (w := w) (w' := w) G (fun b j h => ⟨hF b j h, rfl⟩) (fun b j h => ⟨rfl, rfl⟩) (fun b j _ h => hF' b j h))
  | agg vs cs B S h1 h2 h3 h4 ih => exact .agg vs cs B S h1 ih h3 h4
  | tup vs cs B S h1 h2 h3 h4 ih => exact .tup vs cs B S h1 ih h3 h4
theorem ResOk.weak0 (G : Good E) {v : Value} {a : AV Ty} {S : Set2} (h : ResOk E F w v a S) (hf : fr0 E a = false) (hF : ∀ b j, F' b j → F b j) : ResOk E F' w v a S := by
  cases h with
  | v x _ h => exact .v _ S h
  | fr v t xs _ h hS => cases hf
  | own v t xs _ h => exact .own v t xs S (h.weaken G rfl (by simpa [fr0] using hf) hF)
  | box b off c m t x _ h =>
    cases m with
    | false => cases hf
    | true => exact .box b off c true t x S (h.weaken G rfl (by simpa [fr0] using hf) hF)
  | agg vs cs B _ h1 h2 h3 h4 => cases hf
  | tup vs cs B _ h1 h2 h3 h4 => cases hf
theorem any_false {α : Type} {f : α → Bool} {l : List α} (h : l.any f = false) {i : Nat} {a : α} (e : l[i]? = some a) : f a = false := by
  rw [List.any_eq_false] at h
  have := h a (List.mem_of_getElem? e)
  simpa using this
theorem ResOk.weak1 (G : Good E) {v : Value} {a : AV Ty} {S : Set2} (h : ResOk E F w v a S) (hf : fr1 E a = false) (hF : ∀ b j, F' b j → F b j) : ResOk E F' w v a S := by
  cases a with
  | agg cs =>
    cases h with
    | agg vs _ B _ h1 h2 h3 h4 => exact .agg vs cs B S h1 (fun i v a e1 e2 => (h2 i v a e1 e2).weak0 G (any_false hf e2) hF) h3 h4
  | v x => exact h.weak0 G hf hF
  | sl o t xs => exact h.weak0 G hf hF
  | rp t xs i o => exact h.weak0 G hf hF
  | box m t x => exact h.weak0 G hf hF
  | tup cs => exact h.weak0 G hf hF
  | dead => exact h.weak0 G hf hF
  | ref r p vw f => exact h.weak0 G hf hF
  | ext r p t xs => exact h.weak0 G hf hF
  | ptr r p i o => exact h.weak0 G hf hF
theorem ResOk.weak2 (G : Good E) {v : Value} {a : AV Ty} {S : Set2} (h : ResOk E F w v a S) (hf : fr2 E a = false) (hF : ∀ b j, F' b j → F b j) : ResOk E F' w v a S := by
  cases a with
  | tup cs =>
    cases h with
    | tup vs _ B _ h1 h2 h3 h4 => exact .tup vs cs B S h1 (fun i v a e1 e2 => (h2 i v a e1 e2).weak1 G (any_false hf e2) hF) h3 h4
  | v x => exact h.weak1 G hf hF
  | sl o t xs => exact h.weak1 G hf hF
  | rp t xs i o => exact h.weak1 G hf hF
  | box m t x => exact h.weak1 G hf hF
  | agg cs => exact h.weak1 G hf hF
  | dead => exact h.weak1 G hf hF
  | ref r p vw f => exact h.weak1 G hf hF
  | ext r p t xs => exact h.weak1 G hf hF
  | ptr r p i o => exact h.weak1 G hf hF
theorem lendAll_ok {hp1 : Heap Ty} : ∀ {rs : List (Option Nat)} {as bs : List (AV Ty)}, lendAll E hp1 rs as = some bs → bs.length = as.length ∧ rs.length = as.length ∧
    (∀ (i : Nat) a b, rs[i]? = some none → as[i]? = some a → bs[i]? = some b → lend E hp1 a = some b ∧ (isRef a = true → anyLent rs as = true)) ∧ ∀ (i q : Nat), rs[i]? = some (some q) → bs[i]? = as[i]?
  | [], [], bs, h => by cases h; exact ⟨rfl, rfl, fun i a b e => by simp at e, fun i q e => by simp at e⟩
  | [], a :: as, bs, h => by cases h
  | none :: rs, [], bs, h => by cases h
  | some r :: rs, [], bs, h => by cases h
  | none :: rs, a :: as, bs, h => by
    unfold lendAll at h
    split at h
    · rename_i b r e1 e2
      cases h
      obtain ⟨h1, h2, h3, h4⟩ := lendAll_ok e2
      refine ⟨by simp [h1], by simp [h2], fun i a' b' q1 q2 q3 => ?_, fun i q q1 => ?_⟩
      · cases i with
        | zero => cases q2; cases q3; exact ⟨e1, fun h => by simp [anyLent, h]⟩
        | succ i =>
          obtain ⟨k1, k2⟩ := h3 i a' b' (by simpa using q1) (by simpa using q2) (by simpa using q3)
          exact ⟨k1, fun h => by simp [anyLent, k2 h]⟩
      · cases i with
        | zero => simp at q1
        | succ i => simpa using h4 i q (by simpa using q1)
    · cases h
  | some r :: rs, a :: as, bs, h => by
    unfold lendAll at h
    split at h
    · rename_i r' e2
      cases h
      obtain ⟨h1, h2, h3, h4⟩ := lendAll_ok e2
      refine ⟨by simp [h1], by simp [h2], fun i a' b' q1 q2 q3 => ?_, fun i q q1 => ?_⟩
      · cases i with
        | zero => simp at q1
        | succ i =>
          obtain ⟨k1, k2⟩ := h3 i a' b' (by simpa using q1) (by simpa using q2) (by simpa using q3)
          exact ⟨k1, fun h => by simp [anyLent, k2 h]⟩
      · cases i with
        | zero => rfl
        | succ i => simpa using h4 i q (by simpa using q1)
    · cases h
theorem kills_mem : ∀ {rs : List (Option Nat)} {i q : Nat}, rs[i]? = some (some q) → (q, 1) ∈ killsOf rs
  | [], i, q, h => by simp at h
  | none :: rs, i, q, h => by
    cases i with
    | zero => simp at h
    | succ i => unfold killsOf; exact kills_mem (rs := rs) (by simpa using h)
  | some r :: rs, i, q, h => by
    unfold killsOf
    cases i with
    | zero => simp at h; subst h; exact List.mem_cons_self
    | succ i => exact List.mem_cons_of_mem _ (kills_mem (rs := rs) (by simpa using h))
theorem Keep.trans {Xc : Set2} (h : Keep X W0 w) (k : Keep Xc w w') (hx : ∀ b j, Xc b j → X b j ∨ W0.heap.size ≤ b) : Keep X W0 w' where
  os := k.os.trans h.os
  tape := k.tape.trans h.tape
  output := k.output.trans h.output
  size := Nat.le_trans h.size k.size
  block := fun i hi hxi => (k.block i (Nat.lt_of_lt_of_le hi h.size) (fun j hc => by rcases hx _ _ hc with h' | h'; exact hxi _ h'; omega)).trans (h.block i hi hxi)
  cell := fun b j hb hn => by
    obtain ⟨k1, k2⟩ := k.cell b j (Nat.lt_of_lt_of_le hb h.size) (fun hc => by rcases hx _ _ hc with h' | h'; exact hn h'; omega)
    obtain ⟨h1, h2⟩ := h.cell b j hb hn
    exact ⟨k1.trans h1, k2.trans h2⟩
theorem call_ok (G : Good E) (I : Inv E X W0 F w hp vals sets) {mu : List Bool} {S : List (AV Ty) → T (AV Ty × List (AV Ty))} {f : FuncId} {args : List (AV Ty)} {vs : List Value} (hlen : vs.length = args.length) (hv : ∀ (i : Nat) v a, vs[i]? = some v → args[i]? = some a → VRep E F w hp vals v a)
    (hS : ∀ as r outs, (S as).val = some (r, outs) → CallOk E P f as r outs) {res : EffR Ty} (h : (callT E hp mu S args).val = some res) :
    Calls P f vs.toArray w fun e w' => ∃ (v : Value) (F' : Set2) (vals' : Nat → Value) (sets' : Nat → Set2), e = .returned v ∧ Inv E X W0 F' w' res.2.1 vals' sets' ∧ VRep E F' w' res.2.1 vals' v res.1 ∧
      (∀ u a, VRep E F w hp vals u a → VRep E F' w' res.2.1 vals' u (killA res.2.2 a)) ∧ (∀ j, j < hp.length → vals' j = vals j) ∧ Grow X W0 F F' := by
  unfold callT at h
  split at h
  · rename_i as hp1 rs hf
    split at h
    · rename_i bs hb
      rw [T.val_bind] at h
      obtain ⟨⟨r, outs⟩, hs, h⟩ := h
      · split at h
        · rename_i hlf
          split at h
          · rename_i a hp2 ht
            cases h
            have Fo := focus_ok args mu hp hp1 as rs hf
            obtain ⟨b1, b2, b3, b4⟩ := lendAll_ok hb
            obtain ⟨Xc, hXc⟩ : ∃ Xc : Set2, ∀ b j, Xc b j ↔ ∃ i q : Nat, rs[i]? = some (some q) ∧ sets q b j := ⟨fun b j => ∃ i q : Nat, rs[i]? = some (some q) ∧ sets q b j, fun _ _ => Iff.rfl⟩
            obtain ⟨Fc, hFc⟩ : ∃ Fc : Set2, ∀ b j, Fc b j ↔ F b j ∨ (anyLent rs as = true ∧ ∃ q R, root hp1 q = some R ∧ sets q b j) := ⟨fun b j => F b j ∨ (anyLent rs as = true ∧ ∃ q R, root hp1 q = some R ∧ sets q b j), fun _ _ => Iff.rfl⟩
            obtain ⟨setc, hsetc⟩ : ∃ setc : Nat → Set2, ∀ i b j, setc i b j ↔ ∃ q : Nat, rs[i]? = some (some q) ∧ sets q b j := ⟨fun i b j => ∃ q : Nat, rs[i]? = some (some q) ∧ sets q b j, fun _ _ _ => Iff.rfl⟩
            have focR : ∀ (i q : Nat), rs[i]? = some (some q) → ∃ R, root hp q = some R := fun i q e => by obtain ⟨m, t, x, _, _, h, _⟩ := Fo.yes i q e; exact ⟨_, h⟩
            obtain ⟨caps, hcaps⟩ : ∃ caps : Nat → Nat, ∀ i q A c, rs[i]? = some (some q) → vals q = .slice A 1 c → caps i = c := ⟨fun i => match rs[i]? with
              | some (some q) => match vals q with
                | .slice _ _ c => c
                | _ => 0
              | _ => 0, fun i q A c h1 h2 => by simp only [h1, h2]⟩
            have FnotS : ∀ q R b j, root hp q = some R → sets q b j → ¬ F b j := fun q R b j h s => ((I.H.own q R h).free b j s).2.2
            have ownC : ∀ (i q : Nat), rs[i]? = some (some q) → ∃ m t x b off c, as[i]? = some (.box m t x) ∧ root hp q = some ⟨t, m, [x]⟩ ∧ vs[i]? = some (.pointer (some ⟨b, off, none⟩)) ∧ vals q = .slice (some ⟨b, off, none⟩) 1 c ∧ Own E Fc w m (.slice (some ⟨b, off, none⟩) 1 c) t [x] (setc i) := by
              intro i q hr
              obtain ⟨m, t, x, k1, k2, k3, k4⟩ := Fo.yes i q hr
              have hvi : i < vs.length := by rw [hlen]; exact get_lt k2
              have e1 := List.getElem?_eq_getElem hvi
              obtain ⟨R, b, off, c, row, g1, g2, g3, g4⟩ := (hv i _ _ e1 k2).ptr'
              rw [k3] at g1
              cases g1
              obtain ⟨g5, rfl⟩ := g2
              refine ⟨m, t, x, b, off, c, k1, k3, by rw [e1, g4]; simp, g5.symm, ?_⟩
              have hO := I.H.own q _ k3
              simp only at hO g5
              rw [← g5] at hO
              have hO2 : Own E Fc w m (.slice (some ⟨b, off, none⟩) 1 c) t [x] (sets q) := by
                refine hO.stable (w := w) (w' := w) G (fun b j h => ⟨(hFc b j).2 (.inl h), rfl⟩) (fun _ _ _ => ⟨rfl, rfl⟩) (fun b j hs hf' => ?_)
                rcases (hFc b j).1 hf' with h | ⟨_, q', R', h1, h2⟩
                · exact h
                · have := I.H.dj _ _ _ _ (Fo.sub _ _ h1) k3 b j h2 hs
                  subst this
                  rw [k4] at h1; cases h1
              refine hO2.congr fun b j => ⟨fun h => ?_, fun h => (hsetc i b j).2 ⟨q, hr, h⟩⟩
              obtain ⟨q', h1, h2⟩ := (hsetc i b j).1 h
              rw [hr] at h1
              cases h1
              exact h2
            have A : ArgsOk E w Fc Xc vs bs setc caps := by
              refine ⟨by rw [hlen, b1, Fo.l1], fun b j h => ?_, fun i v b e1 e2 e3 => ?_, fun i v m t x e1 e2 => ?_, fun i i' b j h1 h2 => ?_, fun i b j h => ?_, fun b j h => ?_⟩
              · rw [hFc] at h
                rcases h with h | ⟨_, q, R, h1, h2⟩
                · refine ⟨I.fb _ _ h, fun hx => ?_⟩
                  obtain ⟨i, q, h1, h2⟩ := (hXc _ _).1 hx
                  obtain ⟨R, hR⟩ := focR i q h1
                  exact FnotS q R b j hR h2 h
                · refine ⟨I.lt (Fo.sub _ _ h1) h2, fun hx => ?_⟩
                  obtain ⟨i, q', h3, h4⟩ := (hXc _ _).1 hx
                  obtain ⟨m, t, x, _, _, h5, h6⟩ := Fo.yes i q' h3
                  have := I.H.dj _ _ _ _ (Fo.sub _ _ h1) h5 b j h2 h4
                  subst this
                  rw [h6] at h1; cases h1
              · have hi : i < rs.length := by rw [b2, ← b1]; exact get_lt e2
                have hr := List.getElem?_eq_getElem hi
                cases hq : rs[i] with
                | none =>
                  rw [hq] at hr
                  have ha : as[i]? = some (as[i]'(by omega)) := List.getElem?_eq_getElem (by omega)
                  obtain ⟨k1, k2⟩ := b3 i _ b hr ha e2
                  have ha2 := Fo.no i hr
                  rw [ha] at ha2
                  exact (lend_ok G I.H Fo.sub (fun b j h => (hFc b j).2 (.inl h)) (hv i v _ e1 ha2.symm) k1 (fun h q R b j h1 h2 => (hFc b j).2 (.inr ⟨k2 h, q, R, h1, h2⟩))).1
                | some q =>
                  rw [hq] at hr
                  obtain ⟨m, t, x, k1, _⟩ := Fo.yes i q hr
                  rw [b4 i q hr, k1] at e2
                  cases e2
                  exact absurd rfl (e3 m t x)
              · have hi : i < rs.length := by rw [b2, ← b1]; exact get_lt e2
                have hr := List.getElem?_eq_getElem hi
                cases hq : rs[i] with
                | none =>
                  rw [hq] at hr
                  have ha : as[i]? = some (as[i]'(by omega)) := List.getElem?_eq_getElem (by omega)
                  obtain ⟨k1, k2⟩ := b3 i _ _ hr ha e2
                  have ha2 := Fo.no i hr
                  rw [ha] at ha2
                  exact absurd rfl ((lend_ok G I.H Fo.sub (F' := fun b j => True) (fun b j h => trivial) (hv i v _ e1 ha2.symm) k1 (fun h q R b j h1 h2 => trivial)).2 m t x)
                | some q =>
                  rw [hq] at hr
                  obtain ⟨m', t', x', b, off, c, k1, k2, k3, k4, k5⟩ := ownC i q hr
                  rw [b4 i q hr, k1] at e2
                  cases e2
                  rw [e1] at k3
                  exact ⟨b, off, Option.some.inj k3, by rw [hcaps i q _ c hr k4]; exact k5⟩
              · obtain ⟨q, k1, k2⟩ := (hsetc i b j).1 h1
                obtain ⟨q', k3, k4⟩ := (hsetc i' b j).1 h2
                obtain ⟨R, hR⟩ := focR i q k1
                obtain ⟨R', hR'⟩ := focR i' q' k3
                have := I.H.dj _ _ _ _ hR hR' b j k2 k4
                subst this
                exact Fo.inj i i' q k1 k3
              · obtain ⟨q, k1, k2⟩ := (hsetc i b j).1 h
                exact (hXc b j).2 ⟨i, q, k1, k2⟩
              · obtain ⟨i, q, k1, k2⟩ := (hXc b j).1 h
                obtain ⟨m, t, x, k3, _⟩ := Fo.yes i q k1
                exact ⟨i, m, t, x, by rw [b4 i q k1]; exact k3, (hsetc i b j).2 ⟨q, k1, k2⟩⟩
            refine (hS bs r outs hs w Fc Xc vs setc caps A).mono ?_
            rintro e w' ⟨v, Sr, F', sets', rfl, hK, c1, c2, c3, c4, c5, c6, c7, c8, c9⟩
            obtain ⟨Fn, hFn⟩ : ∃ Fn : Set2, ∀ b j, Fn b j ↔ F b j ∨ (F' b j ∧ (w.heap.size ≤ b ∨ Xc b j)) := ⟨fun b j => F b j ∨ (F' b j ∧ (w.heap.size ≤ b ∨ Xc b j)), fun _ _ => Iff.rfl⟩
            have FnF : ∀ b j, Fn b j → F' b j := fun b j h => by
              rcases (hFn b j).1 h with h | h
              · exact c1 _ _ ((hFc _ _).2 (.inl h))
              · exact h.1
            have noL : anyLent rs as = false → ∀ b j, F' b j → Fn b j := fun hl b j h => by
              rcases c2 b j h with h' | h' | h'
              · rcases (hFc b j).1 h' with h' | ⟨h', _⟩
                · exact (hFn b j).2 (.inl h')
                · rw [hl] at h'; cases h'
              · exact (hFn b j).2 (.inr ⟨h, .inl h'⟩)
              · exact (hFn b j).2 (.inr ⟨h, .inr h'⟩)
            have XcS : ∀ q R b j, root hp q = some R → (∀ i : Nat, rs[i]? ≠ some (some q)) → sets q b j → ¬ Xc b j := fun q R b j h hn s hx => by
              obtain ⟨i, q', k1, k2⟩ := (hXc b j).1 hx
              obtain ⟨R', hR'⟩ := focR i q' k1
              have := I.H.dj _ _ _ _ h hR' b j s k2
              subst this
              exact hn i k1
            have keepF : ∀ b j, F b j → w'.cell? ⟨b, j, none⟩ = w.cell? ⟨b, j, none⟩ := fun b j h => (hK.cell b j (I.fb _ _ h) (A.fb b j ((hFc b j).2 (.inl h))).2).1
            have keepS : ∀ q R b j, root hp q = some R → (∀ i : Nat, rs[i]? ≠ some (some q)) → sets q b j → w'.cell? ⟨b, j, none⟩ = w.cell? ⟨b, j, none⟩ ∧ w'.frozen? ⟨b, j, none⟩ = w.frozen? ⟨b, j, none⟩ := fun q R b j h hn s => hK.cell b j (I.lt h s) (XcS q R b j h hn s)
            -- the heap behind the call
            have dec : ∀ q, (∃ i : Nat, rs[i]? = some (some q)) ∨ ∀ i : Nat, rs[i]? ≠ some (some q) := fun q => by
              by_cases h : ∃ i : Nat, rs[i]? = some (some q)
              · exact .inl h
              · exact .inr fun i e => h ⟨i, e⟩
            have foc2 : ∀ (i q : Nat), rs[i]? = some (some q) → ∃ m t x x', root hp q = some ⟨t, m, [x]⟩ ∧ root (restore hp1 rs outs) q = some ⟨t, m, [x']⟩ ∧ Own E Fn w' m (vals q) t [x'] (sets' i) := fun i q e => by
              obtain ⟨m, t, x, b, off, c, k1, k3, hvv, g5, q2⟩ := ownC i q e
              have hbx : bs[i]? = some (.box m t x) := by rw [b4 i q e]; exact k1
              obtain ⟨x', q4, q5⟩ := c7 i m t x b off hbx hvv
              rw [hcaps i q _ c e g5] at q5
              refine ⟨m, t, x, x', k3, restore_in rs hp1 outs q i m t x' e (fun i' e' => Fo.inj i' i q e' e) q4 (by rw [Fo.len]; exact root_lt k3), ?_⟩
              rw [g5]
              cases hl : anyLent rs as with
              | false => exact q5.stable (w := w') (w' := w') G (fun b j h => ⟨noL hl b j h, rfl⟩) (fun _ _ _ => ⟨rfl, rfl⟩) (fun b j _ h => FnF b j h)
              | true =>
                rw [hl] at hlf
                have : (fr2 E r || !(bs.all (deepBox E))) = false := by simpa using hlf
                rw [Bool.or_eq_false_iff] at this
                have hall : bs.all (deepBox E) = true := by simpa using this.2
                rw [List.all_eq_true] at hall
                have := hall _ (List.mem_of_getElem? hbx)
                cases m with
                | false => cases this
                | true => exact q5.weaken G rfl (by simpa [deepBox] using this) FnF
            have unf : ∀ q, (∀ i : Nat, rs[i]? ≠ some (some q)) → root (restore hp1 rs outs) q = root hp1 q := fun q h => restore_out rs hp1 outs q h
            have old : ∀ q R, (∀ i : Nat, rs[i]? ≠ some (some q)) → root hp q = some R → root hp1 q = some R := fun q R hn h => by
              rcases Fo.out q R h with h | ⟨i, h⟩
              · exact h
              · exact absurd h (hn i)
            obtain ⟨sets2, hsets2⟩ : ∃ sets2 : Nat → Set2, ∀ q b j, sets2 q b j ↔ (∃ i : Nat, rs[i]? = some (some q) ∧ sets' i b j) ∨ ((∀ i : Nat, rs[i]? ≠ some (some q)) ∧ sets q b j) :=
              ⟨fun q b j => (∃ i : Nat, rs[i]? = some (some q) ∧ sets' i b j) ∨ ((∀ i : Nat, rs[i]? ≠ some (some q)) ∧ sets q b j), fun _ _ _ => Iff.rfl⟩
            have newX : ∀ i b j, sets' i b j → ∀ q R, root hp q = some R → (∀ i : Nat, rs[i]? ≠ some (some q)) → ¬ sets q b j := fun i b j h q R hq hn s => by
              rcases (c8 i b j h).1 with h' | h'
              · have := I.lt hq s; omega
              · exact XcS q R b j hq hn s h'
            have I2 : Inv E X W0 Fn w' (restore hp1 rs outs) vals sets2 := by
              refine ⟨⟨fun q R h => ?_, fun q q' R R' h1 h2 b j s1 s2 => ?_⟩, fun b j h => ?_, fun q R b j h s => ?_, I.keep.trans hK (fun b j h => ?_)⟩
              · rcases dec q with ⟨i, e⟩ | hn
                · obtain ⟨m, t, x, x', k1, k2, k3⟩ := foc2 i q e
                  rw [k2] at h
                  cases h
                  refine k3.congr fun b j => ⟨fun h => ?_, fun h => (hsets2 q b j).2 (.inl ⟨i, e, h⟩)⟩
                  rcases (hsets2 q b j).1 h with ⟨i', e', h⟩ | ⟨hn, _⟩
                  · rw [Fo.inj i i' q e e']; exact h
                  · exact absurd e (hn i)
                · rw [unf q hn] at h
                  have h0 := Fo.sub _ _ h
                  refine ((I.H.own q R h0).stable G (fun b j h => ⟨(hFn b j).2 (.inl h), keepF b j h⟩) (fun b j s => keepS q R b j h0 hn s) (fun b j s hf' => ?_)).congr fun b j => ⟨fun h => ?_, fun h => (hsets2 q b j).2 (.inr ⟨hn, h⟩)⟩
                  · rcases (hFn b j).1 hf' with h | ⟨_, h | h⟩
                    · exact h
                    · have := I.lt h0 s; omega
                    · exact absurd h (XcS q R b j h0 hn s)
                  · rcases (hsets2 q b j).1 h with ⟨i, e, _⟩ | ⟨_, h⟩
                    · exact absurd e (hn i)
                    · exact h
              · have up : ∀ q R, root (restore hp1 rs outs) q = some R → (∀ i : Nat, rs[i]? ≠ some (some q)) → root hp q = some R := fun q R h hn => by rw [unf q hn] at h; exact Fo.sub _ _ h
                rcases (hsets2 q b j).1 s1 with ⟨i, e, s1⟩ | ⟨hn, s1⟩
                · rcases (hsets2 q' b j).1 s2 with ⟨i', e', s2⟩ | ⟨hn', s2⟩
                  · have := c9 _ _ _ _ s1 s2
                    subst this
                    rw [e] at e'
                    cases e'
                    rfl
                  · exact absurd s2 (newX i b j s1 q' R' (up _ _ h2 hn') hn')
                · rcases (hsets2 q' b j).1 s2 with ⟨i', e', s2⟩ | ⟨hn', s2⟩
                  · exact absurd s1 (newX i' b j s2 q R (up _ _ h1 hn) hn)
                  · exact I.H.dj _ _ _ _ (up _ _ h1 hn) (up _ _ h2 hn') b j s1 s2
              · exact c3 _ _ (FnF _ _ h)
              · rcases (hsets2 q b j).1 s with ⟨i, e, s⟩ | ⟨hn, s⟩
                · rcases (c8 i b j s).1 with h' | h'
                  · right; have := I.keep.size; omega
                  · obtain ⟨i', q', k1, k2⟩ := (hXc b j).1 h'
                    obtain ⟨R', hR'⟩ := focR i' q' k1
                    exact I.lim _ _ _ _ hR' k2
                · rw [unf q hn] at h
                  exact I.lim _ _ _ _ (Fo.sub _ _ h) s
              · obtain ⟨i', q', k1, k2⟩ := (hXc b j).1 h
                obtain ⟨R', hR'⟩ := focR i' q' k1
                exact I.lim _ _ _ _ hR' k2
            have RO : ResOk E Fn w' v r Sr := by
              cases hl : anyLent rs as with
              | false => exact c4.same G (noL hl) FnF
              | true =>
                rw [hl] at hlf
                have : (fr2 E r || !(bs.all (deepBox E))) = false := by simpa using hlf
                rw [Bool.or_eq_false_iff] at this
                exact c4.weak2 G this.1 FnF
            obtain ⟨vals3, sets3, I3, M3, V3⟩ := take_ok RO ht I2 (fun q R b j h s hs => by
              rcases (hsets2 q b j).1 s with ⟨i, e, s⟩ | ⟨hn, s⟩
              · exact (c8 i b j s).2 hs
              · rw [unf q hn] at h
                rcases c5 b j hs with h' | h'
                · have := I.lt (Fo.sub _ _ h) s; omega
                · exact XcS q R b j (Fo.sub _ _ h) hn s h') (fun b j hs => by
              rcases c5 b j hs with h' | h'
              · right; have := I.keep.size; omega
              · obtain ⟨i', q', k1, k2⟩ := (hXc b j).1 h'
                obtain ⟨R', hR'⟩ := focR i' q' k1
                exact I.lim _ _ _ _ hR' k2)
            refine ⟨v, Fn, vals3, sets3, rfl, I3, V3, fun u a' hu => VRep.more M3 ?_, fun j hj => (M3.old j (by rw [restore_len, Fo.len]; exact hj)).2.1, fun b j h => (hFn b j).2 (.inl h), fun b j h => ?_⟩
            rotate_left
            · rcases (hFn b j).1 h with h | ⟨_, h | h⟩
              · exact .inl h
              · have := I.keep.size
                exact .inr (.inr (by omega))
              · obtain ⟨i', q', k1, k2⟩ := (hXc b j).1 h
                obtain ⟨R', hR'⟩ := focR i' q' k1
                exact .inr (I.lim _ _ _ _ hR' k2)
            refine survive (fun b j h => ⟨(hFn b j).2 (.inl h), keepF b j h⟩) (fun q R p h1 hh => ?_) hu
            rcases dec q with ⟨i, e⟩ | hn
            · obtain ⟨m, t, x, x', k1, k2, k3⟩ := foc2 i q e
              rw [k1] at h1
              cases h1
              have := hit_mem hh (kills_mem e)
              have hp0 : p = [] := List.length_eq_zero_iff.1 (by omega)
              subst hp0
              refine ⟨⟨t, m, [x']⟩, k2, fun u row hl => ?_⟩
              obtain ⟨rfl, rfl⟩ := hl
              exact ⟨[x'], ⟨rfl, rfl⟩, rfl⟩
            · exact survive_root (hp' := restore hp1 rs outs) (vals' := vals) G I.H h1 (by rw [unf q hn]; exact old q R hn h1) rfl (fun b j s => (keepS q R b j h1 hn s).1)
          · cases h
        · cases h
    · cases h
  · cases h
end
end Go.Proofs.Ytnibdgjlbhdmfaa.Ev
