/- The sets of a graph, in their order: there is but one such list. -/
import Derived.Test.YtggibjbcbicpjaaSccG
namespace Go.Proofs.Ytggibjbcbicpjaa.Ev
open Go
set_option linter.unusedVariables false
set_option linter.unusedSimpArgs false
def Mate (g : List (List Int)) (a b : Nat) : Prop := Rch (ed g) a b ∧ Rch (ed g) b a
theorem Mate.refl {g : List (List Int)} {a : Nat} : Mate g a a := ⟨.refl, .refl⟩
theorem Mate.symm {g : List (List Int)} {a b : Nat} (h : Mate g a b) : Mate g b a := ⟨h.2, h.1⟩
theorem Mate.trans {g : List (List Int)} {a b c : Nat} (h : Mate g a b) (k : Mate g b c) : Mate g a c := ⟨h.1.trans k.1, k.2.trans h.2⟩
open Classical in
noncomputable def cls (g : List (List Int)) (v : Nat) : List Nat := (List.range g.length).filter fun w => decide (Mate g v w)
section
variable {g : List (List Int)} {o : List (List Nat)} {u v w : Nat}
open Classical in
theorem mem_cls : w ∈ cls g v ↔ w < g.length ∧ Mate g v w := by
  unfold cls
  rw [List.mem_filter, List.mem_range, decide_eq_true_eq]
theorem cls_mate (h : Mate g u v) : cls g u = cls g v := by
  classical
  unfold cls
  refine List.filter_congr fun w _ => ?_
  rw [decide_eq_decide]
  exact ⟨fun k => h.symm.trans k, fun k => h.trans k⟩
theorem cls_inc (v : Nat) : (cls g v).Pairwise (· < ·) := by
  unfold cls
  exact List.Pairwise.filter _ List.pairwise_lt_range
theorem cls_ne (h : v < g.length) : v ∈ cls g v := mem_cls.2 ⟨h, .refl⟩
def Ready (g : List (List Int)) (o : List (List Nat)) (v : Nat) : Prop := v < g.length ∧ v ∉ o.flatten ∧ ∀ w, Rch (ed g) v w → ¬ Rch (ed g) w v → w ∈ o.flatten
def Next (g : List (List Int)) (o : List (List Nat)) (v : Nat) : Prop := Ready g o v ∧ ∀ u, u < v → ¬ Ready g o u
theorem Next.uniq (h : Next g o u) (k : Next g o v) : u = v := by
  rcases Nat.lt_trichotomy u v with e | e | e
  · exact absurd h.1 (k.2 _ e)
  · exact e
  · exact absurd k.1 (h.2 _ e)
inductive Way (g : List (List Int)) : List (List Nat) → Prop
  | nil : Way g []
  | snoc {o : List (List Nat)} {v : Nat} : Way g o → Next g o v → Way g (o ++ [cls g v])
theorem flat_snoc {o : List (List Nat)} {l : List Nat} : (o ++ [l]).flatten = o.flatten ++ l := by simp
theorem Way.lt (h : Way g o) : ∀ w, w ∈ o.flatten → w < g.length := by
  induction h with
  | nil => intro w hw; simp at hw
  | snoc h n ih =>
    intro w hw
    rw [flat_snoc, List.mem_append] at hw
    exact hw.elim (ih w) fun k => (mem_cls.1 k).1
theorem Way.closed (h : Way g o) : ∀ w u, w ∈ o.flatten → Rch (ed g) w u → u ∈ o.flatten := by
  induction h with
  | nil => intro w u hw; simp at hw
  | snoc h n ih =>
    rename_i o v
    intro w u hw hu
    rw [flat_snoc, List.mem_append] at hw ⊢
    rcases hw with hw | hw
    · exact .inl (ih w u hw hu)
    · obtain ⟨h1, h2⟩ := mem_cls.1 hw
      by_cases hr : Rch (ed g) u v
      · exact .inr (mem_cls.2 ⟨rch_lt hu h1, h2.1.trans hu, hr⟩)
      · exact .inl (n.1.2.2 u (h2.1.trans hu) hr)
theorem Way.nodup (h : Way g o) : o.flatten.Nodup := by
  induction h with
  | nil => simp
  | snoc h n ih =>
    rename_i o v
    rw [flat_snoc, List.nodup_append]
    refine ⟨ih, (cls_inc v).imp fun h => Nat.ne_of_lt h, fun a ha b hb e => ?_⟩
    subst e
    exact n.1.2.1 (h.closed _ _ ha (mem_cls.1 hb).2.2)
theorem Way.mem (h : Way g o) : ∀ l, l ∈ o → ∃ v, v < g.length ∧ l = cls g v := by
  induction h with
  | nil => intro l hl; cases hl
  | snoc h n ih =>
    intro l hl
    rcases List.mem_append.1 hl with hl | hl
    · exact ih l hl
    · simp at hl
      exact ⟨_, n.1.1, hl⟩
theorem Way.pre (h : Way g o) : ∀ k, k < o.length → Way g (o.take k) ∧ ∃ v, Next g (o.take k) v ∧ o.getD k [] = cls g v := by
  induction h with
  | nil => intro k hk; simp at hk
  | snoc h n ih =>
    rename_i o v
    intro k hk
    simp only [List.length_append, List.length_cons, List.length_nil] at hk
    by_cases e : k < o.length
    · obtain ⟨h1, v, h2, h3⟩ := ih k e
      rw [List.take_append_of_le_length (by omega)]
      refine ⟨h1, v, h2, ?_⟩
      rw [← h3]
      simp [List.getD_eq_getElem?_getD, List.getElem?_append_left e]
    · have : k = o.length := by omega
      subst this
      rw [List.take_append_of_le_length (Nat.le_refl _), List.take_length]
      exact ⟨h, v, n, by simp [List.getD_eq_getElem?_getD]⟩
theorem Way.same {a b : List (List Nat)} (h : Way g a) : Way g b → a.length = b.length → a = b := by
  induction h generalizing b with
  | nil =>
    intro _ e
    exact (List.length_eq_zero_iff.1 e.symm).symm
  | snoc h n ih =>
    intro k e
    cases k with
    | nil => simp at e
    | snoc k m =>
      simp only [List.length_append, List.length_cons, List.length_nil] at e
      have := ih k (by omega)
      subst this
      rw [n.uniq m]
def Full (g : List (List Int)) (o : List (List Nat)) : Prop := ∀ v, v < g.length → v ∈ o.flatten
theorem Way.fit {a b : List (List Nat)} (h : Way g a) (k : Way g b) (fa : Full g a) : b.length ≤ a.length := by
  refine Nat.le_of_not_lt fun hl => ?_
  obtain ⟨h1, v, h2, _⟩ := k.pre a.length hl
  have := h.same h1 (by rw [List.length_take]; omega)
  rw [← this] at h2
  exact h2.1.2.1 (fa v h2.1.1)
theorem Way.uniq {a b : List (List Nat)} (h : Way g a) (k : Way g b) (fa : Full g a) (fb : Full g b) : a = b :=
  h.same k (Nat.le_antisymm (k.fit h fb) (h.fit k fa))
theorem nodup_sub : ∀ {a b : List Nat}, a.Nodup → (∀ x, x ∈ a → x ∈ b) → a.length ≤ b.length
  | [], b, _, _ => Nat.zero_le _
  | x :: a, b, hn, hs => by
    rw [List.nodup_cons] at hn
    have hx := hs x List.mem_cons_self
    have := nodup_sub (a := a) (b := b.erase x) hn.2 fun y hy => by
      have hne : y ≠ x := fun e => by subst e; exact hn.1 hy
      exact (List.mem_erase_of_ne hne).2 (hs y (List.mem_cons_of_mem _ hy))
    rw [List.length_erase_of_mem hx] at this
    have := List.length_pos_of_mem hx
    simp only [List.length_cons]
    omega
theorem Way.len (h : Way g o) : o.flatten.length ≤ g.length := by
  have := nodup_sub (b := List.range g.length) h.nodup fun x hx => List.mem_range.2 (h.lt x hx)
  simpa using this
theorem Way.full (h : Way g o) : Full g o ↔ o.flatten.length = g.length := by
  constructor
  · intro f
    have := nodup_sub (a := List.range g.length) List.nodup_range fun x hx => f x (List.mem_range.1 hx)
    rw [List.length_range] at this
    exact Nat.le_antisymm h.len this
  · intro e v hv
    refine Classical.byContradiction fun hn => ?_
    have := nodup_sub (a := v :: o.flatten) (b := List.range g.length) (List.nodup_cons.2 ⟨hn, h.nodup⟩) fun x hx => by
      rcases List.mem_cons.1 hx with rfl | hx
      · exact List.mem_range.2 hv
      · exact List.mem_range.2 (h.lt x hx)
    rw [List.length_cons, List.length_range] at this
    omega
open Classical in
noncomputable def reach (g : List (List Int)) (v : Nat) : List Nat := (List.range g.length).filter fun w => decide (Rch (ed g) v w)
open Classical in
theorem mem_reach : w ∈ reach g v ↔ w < g.length ∧ Rch (ed g) v w := by
  unfold reach
  rw [List.mem_filter, List.mem_range, decide_eq_true_eq]
theorem reach_lt (hv : v < g.length) (h : Rch (ed g) v w) (k : ¬ Rch (ed g) w v) : (reach g w).length < (reach g v).length := by
  have hd : (reach g w).Nodup := by unfold reach; exact List.Pairwise.filter _ List.nodup_range
  have := nodup_sub (a := v :: reach g w) (b := reach g v) (List.nodup_cons.2 ⟨fun hm => k (mem_reach.1 hm).2, hd⟩) fun x hx => by
    rcases List.mem_cons.1 hx with rfl | hx
    · exact mem_reach.2 ⟨hv, .refl⟩
    · have := mem_reach.1 hx
      exact mem_reach.2 ⟨this.1, h.trans this.2⟩
  simp only [List.length_cons] at this
  omega
theorem ready_some (o : List (List Nat)) : ∀ (n v : Nat), (reach g v).length < n → v < g.length → v ∉ o.flatten → ∃ u, Ready g o u
  | 0, v, hn, _, _ => by omega
  | n + 1, v, hn, hv, ho => by
    by_cases hr : Ready g o v
    · exact ⟨v, hr⟩
    · have : ∃ w, Rch (ed g) v w ∧ ¬ Rch (ed g) w v ∧ w ∉ o.flatten := by
        refine Classical.byContradiction fun hc => hr ⟨hv, ho, fun w h1 h2 => Classical.byContradiction fun h3 => hc ⟨w, h1, h2, h3⟩⟩
      obtain ⟨w, h1, h2, h3⟩ := this
      have := reach_lt hv h1 h2
      exact ready_some o n w (by omega) (rch_lt h1 hv) h3
theorem least {P : Nat → Prop} : ∀ (n v : Nat), v < n → P v → ∃ u, u ≤ v ∧ P u ∧ ∀ w, w < u → ¬ P w
  | 0, v, h, _ => by omega
  | n + 1, v, h, hp => by
    by_cases hc : ∃ w, w < v ∧ P w
    · obtain ⟨w, h1, h2⟩ := hc
      obtain ⟨u, u1, u2, u3⟩ := least n w (by omega) h2
      exact ⟨u, by omega, u2, u3⟩
    · exact ⟨v, Nat.le_refl _, hp, fun w h1 h2 => hc ⟨w, h1, h2⟩⟩
theorem next_some (h : ¬ Full g o) : ∃ v, Next g o v := by
  have : ∃ v, v < g.length ∧ v ∉ o.flatten := Classical.byContradiction fun hc => h fun v hv => Classical.byContradiction fun hn => hc ⟨v, hv, hn⟩
  obtain ⟨v, h1, h2⟩ := this
  obtain ⟨u, hu⟩ := ready_some o _ v (Nat.lt_succ_self _) h1 h2
  obtain ⟨x, _, x2, x3⟩ := least _ u (Nat.lt_succ_self _) hu
  exact ⟨x, x2, x3⟩
theorem way_some (g : List (List Int)) : ∀ (n : Nat) (o : List (List Nat)), g.length - o.flatten.length < n → Way g o → ∃ o, Way g o ∧ Full g o
  | 0, o, hn, _ => by omega
  | n + 1, o, hn, h => by
    by_cases hf : Full g o
    · exact ⟨o, h, hf⟩
    · obtain ⟨v, hv⟩ := next_some hf
      have h2 := Way.snoc h hv
      have h3 := h2.len
      rw [flat_snoc, List.length_append] at h3
      have := List.length_pos_of_mem (cls_ne hv.1.1)
      exact way_some g n _ (by rw [flat_snoc, List.length_append]; omega) h2
theorem sets_some (g : List (List Int)) : ∃ o, Way g o ∧ Full g o := way_some g _ [] (Nat.lt_succ_self _) .nil
noncomputable def setsN (g : List (List Int)) : List (List Nat) := Classical.choose (sets_some g)
theorem setsN_way (g : List (List Int)) : Way g (setsN g) := (Classical.choose_spec (sets_some g)).1
theorem setsN_full (g : List (List Int)) : Full g (setsN g) := (Classical.choose_spec (sets_some g)).2
theorem setsN_eq (h : Way g o) (f : Full g o) : o = setsN g := h.uniq (setsN_way g) f (setsN_full g)
theorem way_step {n : Nat} (h : Way g o) (hn : o.flatten.length + n = g.length) (hv : Next g o v) : ∃ m, m < n ∧ (o ++ [cls g v]).flatten.length + m = g.length := by
  have h3 := (Way.snoc h hv).len
  rw [flat_snoc, List.length_append] at h3 ⊢
  have := List.length_pos_of_mem (cls_ne hv.1.1)
  exact ⟨g.length - (o.flatten.length + (cls g v).length), by omega, by omega⟩
/-- The same ways: the same sets. -/
theorem setsN_ed {h : List (List Int)} (hl : g.length = h.length) (he : ∀ a b, ed g a b ↔ ed h a b) : setsN g = setsN h := by
  have e : ed g = ed h := by funext a b; exact propext (he a b)
  have eM : ∀ a b, Mate g a b ↔ Mate h a b := fun a b => by unfold Mate; rw [e]
  have eC : ∀ v, cls g v = cls h v := fun v => by
    classical
    unfold cls
    rw [hl]
    exact List.filter_congr fun w _ => by rw [decide_eq_decide]; exact eM v w
  have eR : ∀ o v, Ready g o v ↔ Ready h o v := fun o v => by unfold Ready; rw [e, hl]
  have eN : ∀ o v, Next g o v → Next h o v := fun o v hn => ⟨(eR o v).1 hn.1, fun u hu k => hn.2 u hu ((eR o u).2 k)⟩
  have w : ∀ o, Way g o → Way h o := fun o ho => by
    induction ho with
    | nil => exact .nil
    | snoc _ n ih => rw [eC]; exact .snoc ih (eN _ _ n)
  exact setsN_eq (w _ (setsN_way g)) (fun v hv => setsN_full g v (by omega))
def intR (o : List (List Nat)) : List (List Int) := o.map intL
noncomputable def setsI (g : List (List Int)) : List (List Int) := intR (setsN g)
theorem intR_len (o : List (List Nat)) : (intR o).length = o.length := by simp [intR]
theorem intR_snoc (o : List (List Nat)) (l : List Nat) : intR (o ++ [l]) = intR o ++ [intL l] := by simp [intR]
theorem intR_flat (o : List (List Nat)) : (intR o).flatten = intL o.flatten := by
  unfold intR intL
  rw [List.map_flatten]
theorem intR_get (o : List (List Nat)) (i : Nat) : (intR o).getD i [] = intL (o.getD i []) := by
  by_cases h : i < o.length
  · simp [intR, List.getD_eq_getElem?_getD, h]
  · simp [intR, intL, List.getD_eq_getElem?_getD, List.getElem?_eq_none (Nat.le_of_not_lt h)]
theorem Way.count (h : Way g o) : o.length ≤ o.flatten.length := by
  induction h with
  | nil => exact Nat.le_refl _
  | snoc h n ih =>
    rw [flat_snoc, List.length_append, List.length_append]
    have := List.length_pos_of_mem (cls_ne n.1.1)
    simp only [List.length_cons, List.length_nil]
    omega
theorem Way.row (h : Way g o) : ∀ l, l ∈ o → l.length ≤ g.length := fun l hl => by
  obtain ⟨v, _, rfl⟩ := h.mem l hl
  unfold cls
  refine Nat.le_trans (List.length_filter_le _ _) (by simp)
end
end Go.Proofs.Ytggibjbcbicpjaa.Ev
