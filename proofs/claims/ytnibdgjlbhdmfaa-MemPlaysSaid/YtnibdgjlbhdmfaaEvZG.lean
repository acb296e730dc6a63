/- Regions whose operations may come in several orders: all orders come to what the written one comes to. -/
import Derived.Test.YtnibdgjlbhdmfaaEvZF
namespace Go.Proofs.Ytnibdgjlbhdmfaa.Ev
open Go
set_option linter.unusedVariables false
set_option linter.unusedSimpArgs false
section
variable {Ty : Nat → Type} {E : Tb Ty} {C : Cfg Ty}
variable {X : Set2} {W0 : World} {F0 F F' : Set2} {B : Nat → Value} {w w' : World} {P : Program} {s s' : St Ty} {a : Act}
variable {ops : Array Oper}
theorem fold_addR {x : Nat} : ∀ (l acc : List Nat), x ∈ l.foldl addR acc → x ∈ acc ∨ x ∈ l
  | [], acc, h => .inl h
  | y :: l, acc, h => by
    rcases fold_addR l _ h with h | h
    · unfold addR at h
      split at h
      · exact .inl h
      · rcases List.mem_append.1 h with h | h
        · exact .inl h
        · exact .inr (by simp at h; simp [h])
    · exact .inr (List.mem_cons_of_mem _ h)
theorem fold_anc {tb : List (Nat × List Nat)} {x : Nat} : ∀ (l acc : List Nat), x ∈ l.foldl (fun acc p => (anc tb p).foldl addR (addR acc p)) acc → x ∈ acc ∨ ∃ p, p ∈ l ∧ (x = p ∨ x ∈ anc tb p)
  | [], acc, h => .inl h
  | y :: l, acc, h => by
    rcases fold_anc l _ h with h | ⟨p, hp, h⟩
    · rcases fold_addR _ _ h with h | h
      · rcases fold_addR [y] acc h with h | h
        · exact .inl h
        · exact .inr ⟨y, List.mem_cons_self, .inl (by simpa using h)⟩
      · exact .inr ⟨y, List.mem_cons_self, .inr h⟩
    · exact .inr ⟨p, List.mem_cons_of_mem _ hp, h⟩
theorem ancs_ok {Ex : Nat → Prop} (hd : ∀ j o, ops[j]? = some o → Ex j → ∀ p, p ∈ preds o → Ex p) : ∀ (ord : List Nat) (tb : List (Nat × List Nat)), (∀ j i, i ∈ anc tb j → Ex j → Ex i) → ∀ j i, i ∈ anc (ancs ops ord tb) j → Ex j → Ex i
  | [], tb, h => h
  | k :: ord, tb, h => by
    unfold ancs
    split
    · rename_i o ho
      refine ancs_ok hd ord _ fun j i hi hj => ?_
      unfold anc at hi
      split at hi
      · rename_i e
        have := Nat.eq_of_beq_eq_true e
        subst this
        rcases fold_anc _ _ hi with h' | ⟨p, hp, h'⟩
        · cases h'
        · have := hd j o ho hj p hp
          rcases h' with rfl | h'
          · exact this
          · exact h p i h' this
      · exact h j i hi hj
    · exact h
def Rel (C : Cfg Ty) (ops : Array Oper) (tb : List (Nat × List Nat)) (x y : Nat) : Prop := x ∈ anc tb y ∨ ∃ ox oy, ops[x]? = some ox ∧ ops[y]? = some oy ∧ kindO C ox = 1 ∧ ox.apart ops oy = true ∧ (kindO C oy = 3 → still ox = true)
theorem pairs_cons {tb : List (Nat × List Nat)} {i : Nat} {l : List Nat} (h : pairs C ops tb (i :: l) = true) : (∀ j, j ∈ l → Rel C ops tb i j) ∧ pairs C ops tb l = true := by
  unfold pairs at h
  rw [Bool.and_eq_true, List.all_eq_true] at h
  refine ⟨fun j hj => ?_, h.2⟩
  have := h.1 j hj
  rw [Bool.or_eq_true] at this
  rcases this with h | h
  · exact .inl (hasN_spec.1 h)
  · split at h
    · rename_i oi oj e1 e2
      unfold free at h
      rw [Bool.and_eq_true, Bool.and_eq_true] at h
      refine .inr ⟨oi, oj, e1, e2, Nat.eq_of_beq_eq_true h.1, h.2.2, fun h3 => ?_⟩
      have := h.2.1
      rw [h3, Nat.beq_refl] at this
      simpa using this
    · cases h
theorem pairs_mid {tb : List (Nat × List Nat)} {i : Nat} {l2 : List Nat} : ∀ (l1 : List Nat), pairs C ops tb (l1 ++ i :: l2) = true → (∀ x, x ∈ l1 → Rel C ops tb x i) ∧ (∀ x, x ∈ l2 → Rel C ops tb i x) ∧ pairs C ops tb l2 = true
  | [], h => by
    obtain ⟨h1, h2⟩ := pairs_cons h
    exact ⟨fun x h => (by cases h), h1, h2⟩
  | y :: l1, h => by
    obtain ⟨h1, h2⟩ := pairs_cons h
    obtain ⟨h3, h4, h5⟩ := pairs_mid l1 h2
    refine ⟨fun x hx => ?_, h4, h5⟩
    rcases List.mem_cons.1 hx with rfl | hx
    · exact h1 i (by simp)
    · exact h3 x hx
theorem linear_cons {seen l : List Nat} {i : Nat} (h : linear ops seen (i :: l) = true) : i ∉ seen ∧ (∃ o, ops[i]? = some o ∧ ∀ p, p ∈ preds o → p ∈ seen) ∧ linear ops (i :: seen) l = true := by
  unfold linear at h
  split at h
  · rename_i o ho
    rw [Bool.and_eq_true, Bool.and_eq_true, List.all_eq_true] at h
    refine ⟨fun hm => ?_, ⟨o, ho, fun p hp => hasN_spec.1 (h.2.1 p hp)⟩, h.2.2⟩
    have := h.1
    rw [hasN_spec.2 hm] at this
    cases this
  · cases h
theorem linear_out : ∀ (l seen : List Nat), linear ops seen l = true → ∀ x, x ∈ l → x ∉ seen
  | [], seen, h, x, hx => by cases hx
  | i :: l, seen, h, x, hx => by
    obtain ⟨h1, _, h2⟩ := linear_cons h
    rcases List.mem_cons.1 hx with rfl | hx
    · exact h1
    · exact fun hs => linear_out l _ h2 x hx (List.mem_cons_of_mem _ hs)
theorem linear_mid {i : Nat} {l2 : List Nat} : ∀ (l1 seen : List Nat), linear ops seen (l1 ++ i :: l2) = true → (∀ x, x ∈ l1 → x ≠ i) ∧ (∀ x, x ∈ l2 → x ≠ i) ∧ (∃ o, ops[i]? = some o ∧ ∀ p, p ∈ preds o → p ∈ seen ∨ p ∈ l1) ∧ ∃ seen', linear ops seen' l2 = true ∧ ∀ x, x ∈ seen' → x ∈ seen ∨ x ∈ l1 ∨ x = i
  | [], seen, h => by
    obtain ⟨h1, ⟨o, h2, h3⟩, h4⟩ := linear_cons h
    refine ⟨fun x h => (by cases h), fun x hx e => ?_, ⟨o, h2, fun p hp => .inl (h3 p hp)⟩, _, h4, fun x hx => ?_⟩
    · subst e; exact linear_out _ _ h4 x hx List.mem_cons_self
    · rcases List.mem_cons.1 hx with rfl | hx
      · exact .inr (.inr rfl)
      · exact .inl hx
  | y :: l1, seen, h => by
    obtain ⟨h1, _, h2⟩ := linear_cons h
    obtain ⟨h3, h4, ⟨o, h5, h6⟩, seen', h7, h8⟩ := linear_mid l1 _ h2
    refine ⟨fun x hx => ?_, h4, ⟨o, h5, fun p hp => ?_⟩, seen', h7, fun x hx => ?_⟩
    · rcases List.mem_cons.1 hx with rfl | hx
      · exact fun e => linear_out _ _ h2 i (by simp) (by rw [e]; exact List.mem_cons_self)
      · exact h3 x hx
    · rcases h6 p hp with h | h
      · rcases List.mem_cons.1 h with rfl | h
        · exact .inr List.mem_cons_self
        · exact .inl h
      · exact .inr (List.mem_cons_of_mem _ h)
    · rcases h8 x hx with h | h | h
      · rcases List.mem_cons.1 h with rfl | h
        · exact .inr (.inl List.mem_cons_self)
        · exact .inl h
      · exact .inr (.inl (List.mem_cons_of_mem _ h))
      · exact .inr (.inr h)
theorem Tr.mem {tr : List (Rec Ty)} (T : Tr E C ops s tr s') {c : Rec Ty} (h : c ∈ tr) : RecOk E C ops c := by
  obtain ⟨l1, l2, rfl⟩ := List.append_of_mem h
  exact (Tr.split T).2.1
theorem first_un {D : Nat → Bool} : ∀ (tr : List (Rec Ty)), (∃ c, c ∈ tr ∧ D c.i = false) → ∃ t1 c t2, tr = t1 ++ c :: t2 ∧ (∀ b, b ∈ t1 → D b.i = true) ∧ D c.i = false
  | [], ⟨c, h, _⟩ => by cases h
  | b :: tr, ⟨c, h, hc⟩ => by
    cases hb : D b.i with
    | false => exact ⟨[], b, tr, rfl, fun x h => (by cases h), hb⟩
    | true =>
      rcases List.mem_cons.1 h with rfl | h
      · rw [hb] at hc; cases hc
      · obtain ⟨t1, d, t2, e, h1, h2⟩ := first_un tr ⟨c, h, hc⟩
        refine ⟨b :: t1, d, t2, by rw [e]; rfl, fun x hx => ?_, h2⟩
        rcases List.mem_cons.1 hx with rfl | hx
        · exact hb
        · exact h1 x hx
theorem getD_set {l : Array Bool} {i j : Nat} (d : Bool) (hi : i < l.size) : (l.setIfInBounds i true).getD j d = if j = i then true else l.getD j d := by
  by_cases e : j = i
  · subst e; simp [hi]
  · rw [if_neg e]; simp [Array.getElem?_setIfInBounds_ne (Ne.symm e)]
theorem getD_both {l : Array Bool} {j : Nat} (h : j < l.size) (d d' : Bool) : l.getD j d = l.getD j d' := by simp [Array.getD, h]
theorem any_ok (K : TbOk E P) (G : Good E) (hS : SOk E C P) {Q : Exit → Act → World → Prop} (hQ : ∀ a w, SRep E C X W0 F0 B s' a w → Q .normal a w) {tb : List (Nat × List Nat)}
    (htb : ∀ Ex : Nat → Prop, (∀ j o, ops[j]? = some o → Ex j → ∀ p, p ∈ preds o → Ex p) → ∀ j i, i ∈ anc tb j → Ex j → Ex i) :
    ∀ (fuel : Nat) (tr : List (Rec Ty)) (D : Nat → Bool) (s : St Ty) (listed : Array Bool) (a : Act) (w : World) (seen : List Nat), Tr E C ops s tr s' → Ahead E C X W0 F0 B tr D s a w → listed.size = ops.size →
      (∀ j, j < ops.size → (listed.getD j false = true ↔ (j ∉ tr.map (·.i) ∨ D j = true))) → linear ops seen (tr.map (·.i)) = true → (∀ x, x ∈ seen → listed.getD x false = true) → pairs C ops tb (tr.map (·.i)) = true →
      (∀ j o, ops[j]? = some o → listed.getD j false = true → ∀ p, p ∈ preds o → listed.getD p false = true) → FarT tb tr → (tr.filter fun c => !D c.i).length ≤ fuel →
      wpAny P .any ops Q fuel listed a w := by
  intro fuel
  induction fuel with
  | zero =>
    intro tr D s listed a w seen T A hsz hL hlin hseen hpr hdown hfar hcnt
    have hall : ∀ c, c ∈ tr → D c.i = true := fun c hc => by
      cases e : D c.i with
      | true => rfl
      | false =>
        have hm : c ∈ tr.filter fun c => !D c.i := List.mem_filter.2 ⟨hc, by simp [e]⟩
        have : (tr.filter fun c => !D c.i) = [] := List.length_eq_zero_iff.1 (by omega)
        rw [this] at hm; cases hm
    refine ⟨?_, hQ a w (A.done T hall)⟩
    refine List.eq_nil_iff_forall_not_mem.2 fun j hj => ?_
    obtain ⟨h0, o, ho, _⟩ := mem_ready.1 hj
    have hlt : j < ops.size := (Array.getElem?_eq_some_iff.1 ho).1
    have h0' : listed.getD j false = false := by rw [getD_both (by omega) false true]; exact h0
    have : ¬ (j ∉ tr.map (·.i) ∨ D j = true) := fun h => by rw [(hL j hlt).2 h] at h0'; cases h0'
    refine this ?_
    by_cases hm : j ∈ tr.map (·.i)
    · obtain ⟨c, hc, rfl⟩ := List.mem_map.1 hm
      exact .inr (hall c hc)
    · exact .inl hm
  | succ fuel ih =>
    intro tr D s listed a w seen T A hsz hL hlin hseen hpr hdown hfar hcnt
    have unl : ∀ j, j ∈ Region.ready .any ops listed → listed.getD j false = false ∧ j < ops.size ∧ ∃ o, ops[j]? = some o ∧ ∀ p, p ∈ preds o → listed.getD p false = true := fun j hj => by
      obtain ⟨h0, o, ho, hall⟩ := mem_ready.1 hj
      have hlt : j < ops.size := (Array.getElem?_eq_some_iff.1 ho).1
      refine ⟨by rw [getD_both (by omega) false true]; exact h0, hlt, o, ho, fun p hp => ?_⟩
      unfold preds at hp
      obtain ⟨e, he, rfl⟩ := List.mem_map.1 hp
      obtain ⟨he1, he2⟩ := List.mem_filter.1 he
      exact hall e (by simpa using he1) he2
    have inTr : ∀ {j}, j < ops.size → listed.getD j false = true → j ∈ tr.map (·.i) → D j = true := fun hlt h hm => ((hL _ hlt).1 h).resolve_left (fun h => h hm)
    have rlt : ∀ c, c ∈ tr → c.i < ops.size := fun c hc => (Array.getElem?_eq_some_iff.1 (T.mem hc).here).1
    refine ⟨fun hr => ?_, fun j hj => ?_⟩
    · by_cases hex : ∃ c, c ∈ tr ∧ D c.i = false
      · obtain ⟨t1, c, t2, e, h1, h2⟩ := first_un tr hex
        have hlin' := hlin
        rw [e, List.map_append, List.map_cons] at hlin'
        obtain ⟨_, _, ⟨o, ho, hp⟩, _⟩ := linear_mid _ _ hlin'
        have hc : c ∈ tr := by rw [e]; simp
        have hlt := rlt c hc
        have : c.i ∈ Region.ready .any ops listed := by
          refine mem_ready.2 ⟨?_, o, ho, fun ed he hb => ?_⟩
          · rw [getD_both (by omega) true false]
            cases e' : listed.getD c.i false with
            | false => rfl
            | true => rw [inTr hlt e' (List.mem_map.2 ⟨c, hc, rfl⟩)] at h2; cases h2
          · have hm : ed.on ∈ preds o := List.mem_map.2 ⟨ed, List.mem_filter.2 ⟨by simpa using he, hb⟩, rfl⟩
            rcases hp _ hm with h | h
            · exact hseen _ h
            · obtain ⟨b, hb1, hb2⟩ := List.mem_map.1 h
              rw [← hb2]
              exact (hL _ (rlt b (by rw [e]; simp [hb1]))).2 (.inr (h1 b hb1))
        rw [hr] at this
        cases this
      · have hall : ∀ c, c ∈ tr → D c.i = true := fun c hc => by
          cases e : D c.i with
          | true => rfl
          | false => exact absurd ⟨c, hc, e⟩ hex
        exact hQ a w (A.done T hall)
    · obtain ⟨hun, hlt, o, ho, hpre⟩ := unl j hj
      have hnot : ¬ (j ∉ tr.map (·.i) ∨ D j = true) := fun h => by rw [(hL j hlt).2 h] at hun; cases hun
      have hm : j ∈ tr.map (·.i) := Classical.byContradiction fun h => hnot (.inl h)
      have hD : D j = false := by
        cases e : D j with
        | false => rfl
        | true => exact absurd (.inr e) hnot
      obtain ⟨c, hc, rfl⟩ := List.mem_map.1 hm
      obtain ⟨t1, t2, e⟩ := List.append_of_mem hc
      have hlin' := hlin
      have hpr' := hpr
      rw [e, List.map_append, List.map_cons] at hlin' hpr'
      obtain ⟨n1, n2, _, seen', hl2, hseen'⟩ := linear_mid _ _ hlin'
      obtain ⟨p1, p2, p3⟩ := pairs_mid _ hpr'
      have hco : c.o = o := Option.some.inj ((T.mem hc).here.symm.trans ho)
      have rel : ∀ {x y : Rec Ty}, x ∈ tr → y ∈ tr → ∀ {ox oy}, ops[x.i]? = some ox → ops[y.i]? = some oy → ox = x.o ∧ oy = y.o := fun hx hy ox oy h1 h2 => ⟨Option.some.inj (h1.symm.trans (T.mem hx).here), Option.some.inj (h2.symm.trans (T.mem hy).here)⟩
      have Z : Turn C ops tr t1 c t2 D := by
        refine ⟨e, fun b hb => n1 _ (List.mem_map.2 ⟨b, hb, rfl⟩), fun b hb => n2 _ (List.mem_map.2 ⟨b, hb, rfl⟩), hD, fun b hb => ?_, fun b hb hDb => ?_, fun l1 b l2 e2 hDb _ x hx hx2 => ?_, fun b hb hDb hne => ?_⟩
        · have hbt : b ∈ tr := by rw [e]; simp [hb]
          rcases p1 _ (List.mem_map.2 ⟨b, hb, rfl⟩) with h | ⟨ox, oy, q1, q2, q3, q4, q5⟩
          · have := htb (fun x => listed.getD x false = true ∨ x = c.i) (fun j o' ho' hj p hp => by
              rcases hj with hj | rfl
              · exact .inl (hdown j o' ho' hj p hp)
              · rw [ho] at ho'
                cases ho'
                exact .inl (hpre p hp)) c.i b.i h (.inr rfl)
            rcases this with h | h
            · exact .inl (inTr (rlt b hbt) h (List.mem_map.2 ⟨b, hbt, rfl⟩))
            · exact absurd h (n1 _ (List.mem_map.2 ⟨b, hb, rfl⟩))
          · obtain ⟨rfl, rfl⟩ := rel hbt hc q1 q2
            exact .inr ⟨q3, q4⟩
        · have hbt : b ∈ tr := by rw [e]; simp [hb]
          rcases p2 _ (List.mem_map.2 ⟨b, hb, rfl⟩) with h | ⟨ox, oy, q1, q2, q3, q4, q5⟩
          · have := htb _ hdown b.i c.i h ((hL _ (rlt b hbt)).2 (.inr hDb))
            rw [hun] at this
            cases this
          · obtain ⟨rfl, rfl⟩ := rel hc hbt q1 q2
            exact ⟨q3, q4, q5⟩
        · have hpr2 := hpr
          rw [e2, List.map_append, List.map_cons] at hpr2
          have hbt : b ∈ tr := by rw [e2]; simp
          have hxt : x ∈ tr := by rw [e2]; simp [hx]
          rcases (pairs_mid _ hpr2).1 _ (List.mem_map.2 ⟨x, hx, rfl⟩) with h | ⟨ox, oy, q1, q2, q3, q4, q5⟩
          · have := htb _ hdown b.i x.i h ((hL _ (rlt b hbt)).2 (.inr hDb))
            exact inTr (rlt x hxt) this (List.mem_map.2 ⟨x, hxt, rfl⟩)
          · obtain ⟨rfl, rfl⟩ := rel hxt hbt q1 q2
            exact absurd q3 hx2
        · have hbt : b ∈ tr := by rw [e]; simp [hb]
          obtain ⟨l2, l3, e3⟩ := List.append_of_mem hb
          rcases hfar t1 c l2 b l3 (by rw [e, e3]) hne with h | h
          · have := htb _ hdown b.i c.i h ((hL _ (rlt b hbt)).2 (.inr hDb))
            rw [hun] at this
            cases this
          · exact h
      have hls : c.i < listed.size := by omega
      have hdown' : ∀ j o, ops[j]? = some o → (listed.setIfInBounds c.i true).getD j false = true → ∀ p, p ∈ preds o → (listed.setIfInBounds c.i true).getD p false = true := fun j o' ho' hj p hp => by
        rw [getD_set _ hls] at hj ⊢
        split
        · rfl
        · split at hj
          · rename_i ej
            subst ej
            rw [ho] at ho'
            cases ho'
            exact hpre p hp
          · exact hdown j o' ho' hj p hp
      refine exec_ok K G hS Z T A (fun a' w' A' => ?_)
      · refine ih tr (withD D c.i) s _ a' w' seen T A' (by simp [hsz]) (fun j hj => ?_) hlin (fun x hx => ?_) hpr hdown' hfar ?_
        · rw [getD_set _ hls]
          by_cases ej : j = c.i
          · subst ej; rw [if_pos rfl]; simp [withD_self]
          · rw [if_neg ej, withD_ne ej]; exact hL j hj
        · rw [getD_set _ hls]
          split
          · rfl
          · exact hseen x hx
        · have key : ∀ l : List (Rec Ty), (∀ b, b ∈ l → b.i ≠ c.i) → (l.filter fun x => !withD D c.i x.i) = l.filter fun x => !D x.i := fun l hl => List.filter_congr fun b hb => by rw [withD_ne (hl b hb)]
          rw [e, List.filter_append, List.filter_cons_of_pos (by simp [hD])] at hcnt
          rw [e, List.filter_append, List.filter_cons_of_neg (by simp [withD_self]), key t1 Z.n1, key t2 Z.n2]
          simp only [List.length_append, List.length_cons] at hcnt ⊢
          omega
theorem SRep.drew (G : Good E) (R : SRep E C X W0 F0 B s a w) (d : Nat) : SRep E C X W0 F0 B s a { w with drawn := d } := by
  obtain ⟨⟨F, vals, sets, I, hf, hB, hG⟩, hsz, hdf, hnf⟩ := R
  refine ⟨⟨F, vals, sets, I.drew G d, fun t => ⟨(hf t).1.drew d, fun r p t' xs e => ?_⟩, hB, hG⟩, hsz, hdf, hnf⟩
  obtain ⟨R, u, ys, S', S1, h1, h2, h3, h4, h5, h6⟩ := (hf t).2 r p t' xs e
  exact ⟨R, u, ys, S', S1, h1, h2.stable (w := w) (w' := { w with drawn := d }) (I.H.own r R h1) G (fun _ _ _ => rfl), h3.stable (w := w) (w' := { w with drawn := d }) G (fun b j h => ⟨h, rfl⟩) (fun _ _ _ => ⟨rfl, rfl⟩) (fun _ _ _ h => h), h4, h5.stable (w := w) (w' := { w with drawn := d }) G (fun b j h => ⟨h, rfl⟩) (fun _ _ _ => ⟨rfl, rfl⟩) (fun _ _ _ h => h), h6⟩
theorem draw_ok (K : TbOk E P) (G : Good E) (hS : SOk E C P) (hm : P.follows .mixedOrders = true) {ord : List Nat} (R : SRep E C X W0 F0 B s a w) (h : (drawT E C ops ord s).val = some s') {id : Nat} {Q : Exit → Act → World → Prop}
    (hQ : ∀ a' w', SRep E C X W0 F0 B s' a' w' → Q .normal a' w') : (Code.region id ops true).wp P Q a w := by
  unfold drawT at h
  split at h
  · rename_i hok
    unfold drawOk at hok
    rw [Bool.and_eq_true, Bool.and_eq_true, Bool.and_eq_true, List.all_eq_true] at hok
    obtain ⟨tr, T, hmap, hfar, _⟩ := tr_of ord [] h
    have rlt : ∀ c, c ∈ tr → c.i < ops.size := fun c hc => (Array.getElem?_eq_some_iff.1 (T.mem hc).here).1
    have hno : ∀ j, (Array.replicate ops.size false).getD j false = false := fun j => by
      by_cases h : j < ops.size <;> simp [Array.getD, h]
    refine wp_region_any hm (any_ok K G hS hQ (fun Ex hd => ancs_ok hd _ [] fun j i hi => by cases hi) ops.size tr (fun _ => false) s _ a _ [] T (.zero tr (R.drew G _)) (by simp) (fun j hj => ?_) (by rw [hmap]; exact hok.1) (fun x hx => by cases hx) (by rw [hmap]; exact hok.2.2.2) (fun j o ho hj => ?_) hfar ?_)
    · rw [hno]
      refine ⟨fun h => (by cases h), fun h => ?_⟩
      rcases h with h | h
      · rw [hmap] at h; exact absurd (hasN_spec.1 (hok.2.1 j (by simpa using hj))) h
      · cases h
    · rw [hno] at hj; cases hj
    · have : (tr.filter fun x => !(fun _ => false : Nat → Bool) x.i) = tr := List.filter_eq_self.2 fun b hb => rfl
      rw [this]
      have := Nat.le_of_ble_eq_true hok.2.2.1
      rw [← hmap] at this
      simpa using this
  · cases h
end
end Go.Proofs.Ytnibdgjlbhdmfaa.Ev
