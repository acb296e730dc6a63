/- Tarjan's sets: what holds while they are found. -/
import Derived.Test.YtggibjbcbicpjaaSccB
namespace Go.Proofs.Ytggibjbcbicpjaa.Ev
open Go
set_option linter.unusedVariables false
set_option linter.unusedSimpArgs false
def updN {α : Type} (f : Nat → α) (z : Nat) (a : α) (v : Nat) : α := if z = v then a else f v
theorem updN_at {α : Type} {f : Nat → α} {z : Nat} {a : α} : updN f z a z = a := if_pos rfl
theorem updN_ne {α : Type} {f : Nat → α} {z v : Nat} {a : α} (h : z ≠ v) : updN f z a v = f v := if_neg h
/-- The way number j of w is gone. -/
def PrW (W : List (Nat × Nat)) (w j : Nat) : Prop := ∀ k, (w, k) ∈ W → j < k
def Dn (g : List (List Int)) (x : Nat → Nat) (S : List Nat) (a : Nat) : Prop := a < g.length ∧ 0 < x a ∧ a ∉ S
/-- w stands in p's part of the stack. -/
def Seg (x : Nat → Nat) (W : List (Nat × Nat)) (p w : Nat) : Prop := x p ≤ x w ∧ ∀ q, q ∈ W → x q.1 ≤ x w → x q.1 ≤ x p
structure Tj (g : List (List Int)) (x l e : Nat → Nat) (S : List Nat) (nx sn : Nat) (W : List (Nat × Nat)) : Prop where
  inS : ∀ v, v ∈ S → v < g.length ∧ 0 < x v
  top : ∀ v, x v ≤ nx
  inc : S.Pairwise (fun a b => x a < x b)
  dn : ∀ a b, Dn g x S a → ed g a b → Dn g x S b
  es : ∀ a, Dn g x S a → e a < sn
  same : ∀ a b, Dn g x S a → Dn g x S b → (e a = e b ↔ Rch (ed g) a b ∧ Rch (ed g) b a)
  full : ∀ s, s < sn → ∃ a, Dn g x S a ∧ e a = s
  wS : ∀ p, p ∈ W → p.1 ∈ S
  wi : W.Pairwise (fun p q => x p.1 < x q.1)
  pr : ∀ w, w ∈ S → ∀ j, PrW W w j → j < (g.getD w []).length → ∀ z : Nat, z < g.length → (g.getD w []).getD j 0 = z → 0 < x z
  dsc : ∀ p, p ∈ W → ∀ w, w ∈ S → x p.1 ≤ x w → Rch (ed g) p.1 w
  lo : ∀ p, p ∈ W → ∀ w, w ∈ S → Seg x W p.1 w → ∀ j, PrW W w j → j < (g.getD w []).length → ∀ z : Nat, z ∈ S → (g.getD w []).getD j 0 = z → l p.1 ≤ x z
  up : ∀ p, p ∈ W → l p.1 ≤ x p.1 ∧ ∃ u, u ∈ S ∧ x u = l p.1 ∧ Rch (ed g) p.1 u
  fin : ∀ w, w ∈ S → (∀ k, (w, k) ∉ W) → ∃ u, u ∈ S ∧ x u < x w ∧ Rch (ed g) w u
section
variable {g : List (List Int)} {x l e : Nat → Nat} {S : List Nat} {nx sn : Nat} {W W1 W2 : List (Nat × Nat)} {v k z : Nat}
theorem inc_inj {S : List Nat} (h : S.Pairwise (fun a b => x a < x b)) {a b : Nat} (ha : a ∈ S) (hb : b ∈ S) (e : x a = x b) : a = b := by
  induction S with
  | nil => cases ha
  | cons c S ih =>
    rw [List.pairwise_cons] at h
    rcases List.mem_cons.1 ha with rfl | ha' <;> rcases List.mem_cons.1 hb with rfl | hb'
    · rfl
    · have := h.1 _ hb'; omega
    · have := h.1 _ ha'; omega
    · exact ih h.2 ha' hb'
theorem w_inj {W : List (Nat × Nat)} (h : W.Pairwise (fun p q => x p.1 < x q.1)) {p q : Nat × Nat} (hp : p ∈ W) (hq : q ∈ W) (e : x p.1 = x q.1) : p = q := by
  induction W with
  | nil => cases hp
  | cons c W ih =>
    rw [List.pairwise_cons] at h
    rcases List.mem_cons.1 hp with rfl | hp' <;> rcases List.mem_cons.1 hq with rfl | hq'
    · rfl
    · have := h.1 _ hq'; omega
    · have := h.1 _ hp'; omega
    · exact ih h.2 hp' hq'
theorem Tj.edge (h : Tj g x l e S nx sn W) {w j z : Nat} (hw : w ∈ S) (hj : j < (g.getD w []).length) (hz : z < g.length) (e : (g.getD w []).getD j 0 = z) : ed g w z :=
  ⟨(h.inS w hw).1, hz, by rw [← e]; exact getD_in hj⟩
/-- A node is come to. -/
theorem Tj.opn (h : Tj g x l e S nx sn W) (hz : z < g.length) (h0 : x z = 0) (hr : ∀ p, p ∈ W → Rch (ed g) p.1 z) : Tj g (updN x z (nx + 1)) (updN l z (nx + 1)) e (S ++ [z]) (nx + 1) sn (W ++ [(z, 0)]) := by
  have zS : z ∉ S := fun hs => by have := (h.inS z hs).2; omega
  have xS : ∀ {v}, v ∈ S → updN x z (nx + 1) v = x v := fun hv => updN_ne fun e => zS (e ▸ hv)
  have xW : ∀ {p}, p ∈ W → updN x z (nx + 1) p.1 = x p.1 := fun hp => xS (h.wS _ hp)
  have lW : ∀ {p}, p ∈ W → updN l z (nx + 1) p.1 = l p.1 := fun hp => updN_ne fun e => zS (e ▸ h.wS _ hp)
  have xz : updN x z (nx + 1) z = nx + 1 := updN_at
  have mS : ∀ {v}, v ∈ S ++ [z] → v ∈ S ∨ v = z := fun hv => by simpa using hv
  have mW : ∀ {p}, p ∈ W ++ [(z, 0)] → p ∈ W ∨ p = (z, 0) := fun hv => by simpa using hv
  have dnI : ∀ a, Dn g (updN x z (nx + 1)) (S ++ [z]) a ↔ Dn g x S a := fun a => by
    unfold Dn
    by_cases ea : z = a
    · subst ea; simp [h0]
    · rw [updN_ne ea]; simp [show ¬ a = z from fun e => ea e.symm]
  have prI : ∀ {w j}, w ≠ z → (PrW (W ++ [(z, 0)]) w j ↔ PrW W w j) := fun {w j} hw => by
    unfold PrW
    constructor
    · intro h k hk; exact h k (by simp [hk])
    · intro h k hk
      rcases mW hk with hk | hk
      · exact h k hk
      · exact absurd (Prod.mk.inj hk).1 hw
  refine ⟨fun v hv => ?_, fun v => ?_, ?_, fun a b ha hb => ?_, fun a ha => h.es a ((dnI a).1 ha), fun a b ha hb => h.same a b ((dnI a).1 ha) ((dnI b).1 hb), fun s hs => ?_, fun p hp => ?_, ?_, fun w hw j hj hl y hy he => ?_, fun p hp w hw hx => ?_, fun p hp w hw hs j hj hl y hy he => ?_, fun p hp => ?_, fun w hw hk => ?_⟩
  · rcases mS hv with hv | rfl
    · rw [xS hv]; exact h.inS v hv
    · exact ⟨hz, by rw [xz]; omega⟩
  · unfold updN
    split
    · exact Nat.le_refl _
    · have := h.top v; omega
  · rw [List.pairwise_append]
    refine ⟨h.inc.imp_of_mem fun ha hb hab => by rw [xS ha, xS hb]; exact hab, by simp, fun a ha b hb => ?_⟩
    simp at hb
    subst hb
    rw [xS ha, xz]
    have := h.top a
    omega
  · exact (dnI b).2 (h.dn a b ((dnI a).1 ha) hb)
  · obtain ⟨a, h1, h2⟩ := h.full s hs
    exact ⟨a, (dnI a).2 h1, h2⟩
  · rcases mW hp with hp | rfl
    · exact List.mem_append_left _ (h.wS p hp)
    · simp
  · rw [List.pairwise_append]
    refine ⟨h.wi.imp_of_mem fun ha hb hab => by rw [xW ha, xW hb]; exact hab, by simp, fun a ha b hb => ?_⟩
    simp at hb
    subst hb
    rw [xW ha, xz]
    have := h.top a.1
    omega
  · rcases mS hw with hw | rfl
    · have := h.pr w hw j ((prI fun e => zS (e ▸ hw)).1 hj) hl y hy he
      unfold updN
      split
      · omega
      · exact this
    · have := hj 0 (by simp); omega
  · rcases mW hp with hp1 | rfl
    · rcases mS hw with hw1 | rfl
      · exact h.dsc p hp1 w hw1 (by rw [xW hp1, xS hw1] at hx; exact hx)
      · exact hr p hp1
    · rcases mS hw with hw | rfl
      · rw [xz, xS hw] at hx
        have := h.top w
        omega
      · exact .refl
  · have hwz : w ≠ z → w ∈ S := fun hn => by
      rcases mS hw with hw | hw
      · exact hw
      · exact absurd hw hn
    by_cases ew : w = z
    · subst ew; have := hj 0 (by simp); omega
    · have hw := hwz ew
      rcases mW hp with hp1 | rfl
      · have s1 := hs.1
        rw [xW hp1, xS hw] at s1
        have sg : Seg x W p.1 w := ⟨s1, fun q hq hqw => by
          have := hs.2 q (List.mem_append_left _ hq) (by rw [xW hq, xS hw]; exact hqw)
          rwa [xW hq, xW hp1] at this⟩
        rw [lW hp1]
        rcases mS hy with hy1 | rfl
        · rw [xS hy1]; exact h.lo p hp1 w hw sg j ((prI ew).1 hj) hl y hy1 he
        · rw [xz]
          have := (h.up p hp1).1
          have := h.top p.1
          omega
      · have s1 := hs.1
        rw [xz, xS hw] at s1
        have := h.top w
        omega
  · rcases mW hp with hp | rfl
    · rw [lW hp, xW hp]
      obtain ⟨h1, u, h2, h3, h4⟩ := h.up p hp
      exact ⟨h1, u, List.mem_append_left _ h2, by rw [xS h2]; exact h3, h4⟩
    · rw [updN_at, updN_at]
      exact ⟨Nat.le_refl _, z, by simp, xz, .refl⟩
  · rcases mS hw with hw | rfl
    · obtain ⟨u, h1, h2, h3⟩ := h.fin w hw fun k hk' => hk k (List.mem_append_left _ hk')
      exact ⟨u, List.mem_append_left _ h1, by rw [xS h1, xS hw]; exact h2, h3⟩
    · exact absurd (show (w, 0) ∈ W ++ [(w, 0)] by simp) (hk 0)
theorem Tj.one (h : Tj g x l e S nx sn (W1 ++ (v, k) :: W2)) {k' : Nat} (hk : (v, k') ∈ W1 ++ (v, k) :: W2) : k' = k := by
  have := w_inj h.wi hk (show (v, k) ∈ W1 ++ (v, k) :: W2 by simp) rfl
  exact (Prod.mk.inj this).2
/-- One way more of a node is gone. -/
theorem Tj.adv (h : Tj g x l e S nx sn (W1 ++ (v, k) :: W2)) (hk : k < (g.getD v []).length) {m : Nat} (hz : ∀ z : Nat, z < g.length → (g.getD v []).getD k 0 = z → 0 < x z ∧ (z ∈ S → m ≤ x z)) (hm : m ≤ l v) (hm' : m = l v ∨ ∃ z, z ∈ S ∧ (g.getD v []).getD k 0 = (z : Nat) ∧ m = x z) :
    Tj g x (updN l v m) e S nx sn (W1 ++ (v, k + 1) :: W2) := by
  have vW : (v, k) ∈ W1 ++ (v, k) :: W2 := by simp
  have vS : v ∈ S := h.wS _ vW
  have mW : ∀ {p}, p ∈ W1 ++ (v, k + 1) :: W2 → ∃ q, q ∈ W1 ++ (v, k) :: W2 ∧ q.1 = p.1 := fun {p} hp => by
    simp only [List.mem_append, List.mem_cons] at hp
    rcases hp with hp | rfl | hp
    · exact ⟨p, by simp [hp], rfl⟩
    · exact ⟨(v, k), vW, rfl⟩
    · exact ⟨p, by simp [hp], rfl⟩
  have mW' : ∀ {p}, p ∈ W1 ++ (v, k) :: W2 → ∃ q, q ∈ W1 ++ (v, k + 1) :: W2 ∧ q.1 = p.1 := fun {p} hp => by
    simp only [List.mem_append, List.mem_cons] at hp
    rcases hp with hp | rfl | hp
    · exact ⟨p, by simp [hp], rfl⟩
    · exact ⟨(v, k + 1), by simp, rfl⟩
    · exact ⟨p, by simp [hp], rfl⟩
  have prI : ∀ {w j}, PrW (W1 ++ (v, k + 1) :: W2) w j → (w = v ∧ j = k) ∨ PrW (W1 ++ (v, k) :: W2) w j := fun {w j} hj => by
    by_cases e : w = v ∧ j = k
    · exact .inl e
    · refine .inr fun k' hk' => ?_
      simp only [List.mem_append, List.mem_cons, Prod.mk.injEq] at hk'
      rcases hk' with hk' | ⟨rfl, rfl⟩ | hk'
      · exact hj k' (by simp [hk'])
      · have := hj (k' + 1) (by simp); simp at e; omega
      · exact hj k' (by simp [hk'])
  have lle : ∀ q, updN l v m q ≤ l q := fun q => by
    unfold updN
    split
    · rename_i e; subst e; exact hm
    · exact Nat.le_refl _
  refine ⟨h.inS, h.top, h.inc, h.dn, h.es, h.same, h.full, fun p hp => ?_, ?_, fun w hw j hj hl y hy he => ?_, fun p hp w hw hx => ?_, fun p hp w hw hs j hj hl y hy he => ?_, fun p hp => ?_, fun w hw hk' => ?_⟩
  · obtain ⟨q, hq, e⟩ := mW hp
    rw [← e]; exact h.wS q hq
  · have := h.wi
    simp only [List.pairwise_append, List.pairwise_cons, List.mem_cons] at this ⊢
    obtain ⟨a1, ⟨a2, a3⟩, a4⟩ := this
    refine ⟨a1, ⟨a2, a3⟩, fun a ha b hb => ?_⟩
    rcases hb with rfl | hb
    · exact a4 a ha (v, k) (.inl rfl)
    · exact a4 a ha b (.inr hb)
  · rcases prI hj with ⟨rfl, rfl⟩ | hj
    · exact (hz y hy he).1
    · exact h.pr w hw j hj hl y hy he
  · obtain ⟨q, hq, e⟩ := mW hp
    rw [← e] at hx ⊢; exact h.dsc q hq w hw hx
  · obtain ⟨q, hq, eq⟩ := mW hp
    have sg : Seg x (W1 ++ (v, k) :: W2) q.1 w := by
      rw [eq]
      refine ⟨hs.1, fun r hr hrw => ?_⟩
      obtain ⟨r', hr', er⟩ := mW' hr
      have := hs.2 r' hr' (by rw [er]; exact hrw)
      rwa [er] at this
    rcases prI hj with ⟨rfl, rfl⟩ | hj
    · have h1 := sg.2 _ vW (Nat.le_refl _)
      have h2 := sg.1
      have e2 := inc_inj h.inc (h.wS q hq) vS (Nat.le_antisymm h2 h1)
      rw [← eq, e2, updN_at]
      exact (hz y (h.inS y hy).1 he).2 hy
    · rw [← eq]
      exact Nat.le_trans (lle _) (h.lo q hq w hw sg j hj hl y hy he)
  · obtain ⟨q, hq, eq⟩ := mW hp
    rw [← eq]
    obtain ⟨h1, u, h2, h3, h4⟩ := h.up q hq
    refine ⟨Nat.le_trans (lle _) h1, ?_⟩
    by_cases ev : v = q.1
    · rw [← ev, updN_at]
      rw [← ev] at h3 h4
      rcases hm' with rfl | ⟨z, z1, z2, rfl⟩
      · exact ⟨u, h2, h3, h4⟩
      · exact ⟨z, z1, rfl, .one (h.edge vS hk (h.inS z z1).1 z2)⟩
    · rw [updN_ne ev]; exact ⟨u, h2, h3, h4⟩
  · refine h.fin w hw fun k' hk'' => ?_
    obtain ⟨⟨q1, q2⟩, hq, eq⟩ := mW' hk''
    simp only at eq
    subst eq
    exact hk' q2 hq
theorem last_max (h : Tj g x l e S nx sn (W ++ [(v, k)])) {q : Nat × Nat} (hq : q ∈ W ++ [(v, k)]) : x q.1 ≤ x v := by
  have := h.wi
  rw [List.pairwise_append] at this
  rcases List.mem_append.1 hq with hq | hq
  · exact Nat.le_of_lt (this.2.2 q hq (v, k) (by simp))
  · simp at hq; subst hq; exact Nat.le_refl _
theorem last_lt (h : Tj g x l e S nx sn (W ++ [(v, k)])) {q : Nat × Nat} (hq : q ∈ W) : x q.1 < x v := by
  have := h.wi
  rw [List.pairwise_append] at this
  exact this.2.2 q hq (v, k) (by simp)
theorem Tj.prAll (h : Tj g x l e S nx sn (W ++ [(v, k)])) (hk : (g.getD v []).length ≤ k) {w j : Nat} (hj : PrW W w j) (hl : j < (g.getD w []).length) : PrW (W ++ [(v, k)]) w j := fun k' hk' => by
  rcases List.mem_append.1 hk' with hk' | hk'
  · exact hj k' hk'
  · simp at hk'
    obtain ⟨rfl, rfl⟩ := hk'
    omega
/-- A node is gone over; it leads further down. -/
theorem Tj.pop0 (h : Tj g x l e S nx sn (W ++ [(v, k)])) (hk : (g.getD v []).length ≤ k) (hlt : l v < x v) {l' : Nat → Nat} (hl' : ∀ W1 q kq, W = W1 ++ [(q, kq)] → l' = updN l q (min (l q) (l v))) : Tj g x l' e S nx sn W := by
  have vW : (v, k) ∈ W ++ [(v, k)] := by simp
  have vS : v ∈ S := h.wS _ vW
  have sub : ∀ {p}, p ∈ W → p ∈ W ++ [(v, k)] := fun hp => List.mem_append_left _ hp
  have lst : ∀ p, p ∈ W → ∃ W1 q kq, W = W1 ++ [(q, kq)] ∧ x p.1 ≤ x q ∧ (p.1 = q ∨ x p.1 < x q) := fun p hp => by
    obtain ⟨W1, q, e⟩ : ∃ W1 q, W = W1 ++ [q] := ⟨W.dropLast, W.getLast (fun e => by rw [e] at hp; cases hp), by rw [List.dropLast_concat_getLast]⟩
    have hw := h.wi
    rw [e, List.append_assoc, List.pairwise_append] at hw
    rw [e] at hp
    rcases List.mem_append.1 hp with hp | hp
    · have := hw.2.2 p hp q (by simp)
      exact ⟨W1, q.1, q.2, e, Nat.le_of_lt this, .inr this⟩
    · simp at hp
      subst hp
      exact ⟨W1, p.1, p.2, e, Nat.le_refl _, .inl rfl⟩
  have lle : ∀ p, p ∈ W → l' p.1 ≤ l p.1 ∧ (l' p.1 = l p.1 ∨ l' p.1 = l v) := fun p hp => by
    obtain ⟨W1, q, kq, e, _⟩ := lst p hp
    rw [hl' W1 q kq e]
    unfold updN
    split
    · rename_i e; subst e; omega
    · exact ⟨Nat.le_refl _, .inl rfl⟩
  refine ⟨h.inS, h.top, h.inc, h.dn, h.es, h.same, h.full, fun p hp => h.wS p (sub hp), (List.pairwise_append.1 h.wi).1, fun w hw j hj hl y hy he => h.pr w hw j (h.prAll hk hj hl) hl y hy he, fun p hp w hw hx => h.dsc p (sub hp) w hw hx, fun p hp w hw hs j hj hl y hy he => ?_, fun p hp => ?_, fun w hw hk' => ?_⟩
  · by_cases c : x v ≤ x w
    · have h1 := h.lo (v, k) vW w hw ⟨c, fun q hq _ => last_max h hq⟩ j (h.prAll hk hj hl) hl y hy he
      obtain ⟨W1, q, kq, e, h2, h3⟩ := lst p hp
      have hq : (q, kq) ∈ W := by rw [e]; simp
      have h4 := hs.2 (q, kq) hq (by have := last_lt h hq; simp only at this ⊢; omega)
      have e2 : p.1 = q := by
        rcases h3 with h3 | h3
        · exact h3
        · simp only at h4; omega
      rw [e2, hl' W1 q kq e, updN_at]
      simp only at h1
      omega
    · refine Nat.le_trans (lle p hp).1 (h.lo p (sub hp) w hw ⟨hs.1, fun q hq hqw => ?_⟩ j (h.prAll hk hj hl) hl y hy he)
      rcases List.mem_append.1 hq with hq | hq
      · exact hs.2 q hq hqw
      · simp at hq; subst hq; exact absurd hqw c
  · obtain ⟨h1, u, h2, h3, h4⟩ := h.up p (sub hp)
    obtain ⟨h5, h6⟩ := lle p hp
    refine ⟨by omega, ?_⟩
    rcases h6 with h6 | h6
    · exact ⟨u, h2, by rw [h6]; exact h3, h4⟩
    · obtain ⟨_, u', k2, k3, k4⟩ := h.up _ vW
      exact ⟨u', k2, by rw [h6]; exact k3, (h.dsc p (sub hp) v vS (Nat.le_of_lt (last_lt h hp))).trans k4⟩
  · by_cases ew : w = v
    · subst ew
      obtain ⟨_, u, k2, k3, k4⟩ := h.up _ vW
      exact ⟨u, k2, by simp only at k3; omega, k4⟩
    · refine h.fin w hw fun k' hk'' => ?_
      rcases List.mem_append.1 hk'' with hk'' | hk''
      · exact hk' k' hk''
      · simp at hk''; exact ew hk''.1
/-- A node is gone over; from it on the stack is a set. -/
theorem Tj.pop1 {A B : List Nat} (h : Tj g x l e (A ++ v :: B) nx sn (W ++ [(v, k)])) (hk : (g.getD v []).length ≤ k) (heq : l v = x v) {e' : Nat → Nat} (he1 : ∀ w, w ∈ v :: B → e' w = sn) (he2 : ∀ w, w ∉ v :: B → e' w = e w) : Tj g x l e' A nx (sn + 1) W := by
  have vW : (v, k) ∈ W ++ [(v, k)] := by simp
  have vS : v ∈ A ++ v :: B := by simp
  have sub : ∀ {p}, p ∈ W → p ∈ W ++ [(v, k)] := fun hp => List.mem_append_left _ hp
  have aS : ∀ {a}, a ∈ A → a ∈ A ++ v :: B := fun ha => List.mem_append_left _ ha
  have tS : ∀ {a}, a ∈ v :: B → a ∈ A ++ v :: B := fun ha => List.mem_append_right _ ha
  have hinc := h.inc
  rw [List.pairwise_append, List.pairwise_cons] at hinc
  obtain ⟨i1, ⟨i2, i3⟩, i4⟩ := hinc
  have tge : ∀ {w}, w ∈ v :: B → x v ≤ x w := fun {w} hw => by
    rcases List.mem_cons.1 hw with rfl | hw
    · exact Nat.le_refl _
    · exact Nat.le_of_lt (i2 w hw)
  have alt : ∀ {w}, w ∈ A → x w < x v := fun hw => i4 _ hw v (by simp)
  have inT : ∀ {w}, w ∈ A ++ v :: B → x v ≤ x w → w ∈ v :: B := fun {w} hw hx => by
    rcases List.mem_append.1 hw with hw | hw
    · have := alt hw; omega
    · exact hw
  have inA : ∀ {w}, w ∈ A ++ v :: B → x w < x v → w ∈ A := fun {w} hw hx => by
    rcases List.mem_append.1 hw with hw | hw
    · exact hw
    · have := tge hw; omega
  have aT : ∀ {w}, w ∈ A → w ∉ v :: B := fun ha ht => by have := alt ha; have := tge ht; omega
  have noW : ∀ {w}, w ∈ v :: B → w ≠ v → ∀ k', (w, k') ∉ W ++ [(v, k)] := fun {w} hw hn k' hk' => by
    have h1 := last_max h hk'
    have h2 := tge hw
    exact hn (inc_inj h.inc (tS hw) vS (by simp only at h1; omega))
  have prT : ∀ {w j}, w ∈ v :: B → j < (g.getD w []).length → PrW (W ++ [(v, k)]) w j := fun {w j} hw hl k' hk' => by
    by_cases ew : w = v
    · subst ew
      have := Tj.one (W2 := []) h hk'
      omega
    · exact absurd hk' (noW hw ew k')
  have tcl : ∀ {w z}, w ∈ v :: B → ed g w z → z ∈ v :: B ∨ Dn g x (A ++ v :: B) z := fun {w z} hw hz => by
    obtain ⟨_, z1, z2⟩ := hz
    obtain ⟨j, hj, ej⟩ := mem_getD 0 z2
    have hp := prT hw hj
    have h1 := h.pr w (tS hw) j hp hj z z1 ej
    by_cases zs : z ∈ A ++ v :: B
    · refine .inl (inT zs ?_)
      have := h.lo (v, k) vW w (tS hw) ⟨tge hw, fun q hq _ => last_max h hq⟩ j hp hj z zs ej
      simp only at this
      omega
    · exact .inr ⟨z1, h1, zs⟩
  have rcl : ∀ {w z}, (w ∈ v :: B ∨ Dn g x (A ++ v :: B) w) → Rch (ed g) w z → z ∈ v :: B ∨ Dn g x (A ++ v :: B) z := fun {w z} hw hz => by
    induction hz with
    | refl => exact hw
    | tail _ he ih =>
      rcases ih with ih | ih
      · exact tcl ih he
      · exact .inr (h.dn _ _ ih he)
  have dcl : ∀ {w z}, Dn g x (A ++ v :: B) w → Rch (ed g) w z → Dn g x (A ++ v :: B) z := fun {w z} hw hz => by
    induction hz with
    | refl => exact hw
    | tail _ he ih => exact h.dn _ _ ih he
  have back : ∀ n w, x w < n → w ∈ v :: B → Rch (ed g) w v := fun n => by
    induction n with
    | zero => intro w hx; omega
    | succ n ih =>
      intro w hx hw
      by_cases ew : w = v
      · subst ew; exact .refl
      · obtain ⟨u, u1, u2, u3⟩ := h.fin w (tS hw) (noW hw ew)
        rcases rcl (.inl hw) u3 with hu | hu
        · exact u3.trans (ih u (by omega) hu)
        · exact absurd u1 hu.2.2
  have fwd : ∀ w, w ∈ v :: B → Rch (ed g) v w := fun w hw => h.dsc (v, k) vW w (tS hw) (tge hw)
  have dnI : ∀ a, Dn g x A a ↔ a ∈ v :: B ∨ Dn g x (A ++ v :: B) a := fun a => by
    constructor
    · intro ⟨a1, a2, a3⟩
      by_cases ha : a ∈ v :: B
      · exact .inl ha
      · exact .inr ⟨a1, a2, fun hs => (List.mem_append.1 hs).elim a3 ha⟩
    · rintro (ha | ⟨a1, a2, a3⟩)
      · obtain ⟨a1, a2⟩ := h.inS a (tS ha)
        exact ⟨a1, a2, fun hA => aT hA ha⟩
      · exact ⟨a1, a2, fun hA => a3 (aS hA)⟩
  have dT : ∀ {a}, Dn g x (A ++ v :: B) a → a ∉ v :: B := fun ha ht => ha.2.2 (tS ht)
  refine ⟨fun w hw => h.inS w (aS hw), h.top, i1, fun a b ha hb => ?_, fun a ha => ?_, fun a b ha hb => ?_, fun s hs => ?_, fun p hp => inA (h.wS p (sub hp)) (last_lt h hp), (List.pairwise_append.1 h.wi).1, fun w hw j hj hl y hy he => h.pr w (aS hw) j (h.prAll hk hj hl) hl y hy he, fun p hp w hw hx => h.dsc p (sub hp) w (aS hw) hx, fun p hp w hw hs j hj hl y hy he => ?_, fun p hp => ?_, fun w hw hk' => ?_⟩
  · refine (dnI b).2 ?_
    rcases (dnI a).1 ha with ha | ha
    · exact tcl ha hb
    · exact .inr (h.dn a b ha hb)
  · rcases (dnI a).1 ha with ha | ha
    · rw [he1 a ha]; omega
    · rw [he2 a (dT ha)]; have := h.es a ha; omega
  · rcases (dnI a).1 ha with ha | ha <;> rcases (dnI b).1 hb with hb | hb
    · rw [he1 a ha, he1 b hb]
      exact ⟨fun _ => ⟨(back _ a (Nat.lt_succ_self _) ha).trans (fwd b hb), (back _ b (Nat.lt_succ_self _) hb).trans (fwd a ha)⟩, fun _ => rfl⟩
    · rw [he1 a ha, he2 b (dT hb)]
      have := h.es b hb
      exact ⟨fun e => by omega, fun ⟨_, r⟩ => absurd ha (dT (dcl hb r))⟩
    · rw [he2 a (dT ha), he1 b hb]
      have := h.es a ha
      exact ⟨fun e => by omega, fun ⟨r, _⟩ => absurd hb (dT (dcl ha r))⟩
    · rw [he2 a (dT ha), he2 b (dT hb)]
      exact h.same a b ha hb
  · by_cases es : s = sn
    · exact ⟨v, (dnI v).2 (.inl (by simp)), by rw [he1 v (by simp), es]⟩
    · obtain ⟨a, a1, a2⟩ := h.full s (by omega)
      exact ⟨a, (dnI a).2 (.inr a1), by rw [he2 a (dT a1)]; exact a2⟩
  · refine h.lo p (sub hp) w (aS hw) ⟨hs.1, fun q hq hqw => ?_⟩ j (h.prAll hk hj hl) hl y (aS hy) he
    rcases List.mem_append.1 hq with hq | hq
    · exact hs.2 q hq hqw
    · simp at hq; subst hq; have := alt hw; simp only at hqw; omega
  · obtain ⟨h1, u, h2, h3, h4⟩ := h.up p (sub hp)
    have := last_lt h hp
    exact ⟨h1, u, inA h2 (by omega), h3, h4⟩
  · obtain ⟨u, u1, u2, u3⟩ := h.fin w (aS hw) fun k' hk'' => by
      rcases List.mem_append.1 hk'' with hk'' | hk''
      · exact hk' k' hk''
      · simp at hk''; exact aT hw (by rw [hk''.1]; simp)
    have := alt hw
    exact ⟨u, inA u1 (by omega), u2, u3⟩
theorem Tj.empty (h : Tj g x l e S nx sn []) : S = [] := by
  cases S with
  | nil => rfl
  | cons a S =>
    obtain ⟨u, u1, u2, _⟩ := h.fin a (by simp) fun k hk => by cases hk
    have := h.inc
    rw [List.pairwise_cons] at this
    rcases List.mem_cons.1 u1 with rfl | hu
    · omega
    · have := this.1 u hu; omega
end
end Go.Proofs.Ytggibjbcbicpjaa.Ev
