/- What can be read as data and is no heavier than a machine can hold. -/
import Derived.Test.YtggibjbcbicpjaaEvMc
import Derived.SizedLaws
namespace Go.Proofs.Ytggibjbcbicpjaa.Ev
open Go
set_option linter.unusedVariables false
set_option linter.unusedSimpArgs false
theorem weightsAll_mem {H : Type} {P : Program} {e : TypeId} {d : DataW H} : ∀ (l : List (DataW H)), True → d ∈ l → ∀ n, n ∈ d.weights P e → n ∈ DataW.weightsAll P e l
  | [], _, h, _, _ => by cases h
  | x :: l, _, h, n, hn => by
    simp only [DataW.weightsAll]
    rcases List.mem_cons.1 h with h | h
    · subst h; exact List.mem_append_left _ hn
    · exact List.mem_append_right _ (weightsAll_mem l trivial h n hn)
section
variable {Ty : Nat → Type} (E : Tb Ty)
/-- Numbers within their kind; strings and rows that a machine can hold. -/
inductive FineW : AV Ty → Prop
  | int (k n) : (Lit.int k n).wf = true → FineW (.v (.int k n))
  | bool (b) : FineW (.v (.bool b))
  | str (s : ByteArray) : s.size ≤ maxLen → FineW (.v (.string s))
  | sl (t) (xs : List (Ty t)) : xs.length ≤ reachBytes → (∀ x, x ∈ xs → ∀ (o : Nat) a, ((E.cod t).enc false x)[o]? = some a → FineW a) → FineW (.sl false t xs)
def Heavy (P : Program) : Prop := ∀ t i e, E.ti t = some i → i.d = .slice e → E.has e = true → 0 < P.bytesOf e
variable {E}
variable {P : Program} {W : World} {H : Type} {enc : TypeId × Value → H} {spare : Nat → Bool} {held : Bool}
/-- What is told of cells. -/
def ToldW (E : Tb Ty) (W : World) (ls : List Leaf) (cs : List Value) (as : List (AV Ty)) : Prop :=
  as.length = ls.length ∧ ∀ (o : Nat) l v a, ls[o]? = some l → cs[o]? = some v → as[o]? = some a → leafA l a ∧ FineW E a ∧ Rep E (fun b _ => b < W.heap.size) W v a
theorem told_oneW {l : Leaf} {v : Value} {a : AV Ty} (h1 : leafA l a) (h2 : FineW E a) (h3 : Rep E (fun b _ => b < W.heap.size) W v a) : ToldW E W [l] [v] [a] := by
  refine ⟨rfl, fun o l' v' a' e1 e2 e3 => ?_⟩
  cases o with
  | zero => cases e1; cases e2; cases e3; exact ⟨h1, h2, h3⟩
  | succ o => simp at e1
theorem told_fieldsW {m : Nat} {f : Nat → Option (List Leaf)} {cs : List Value} (ih : ∀ t cs x, DataW.trod enc P W 0 spare held m t cs = some x → (∀ n, n ∈ x.1.weights P t → n ≤ reachBytes) → ∀ ls, f t = some ls → cs.length = ls.length ∧ ∃ as, ToldW E W ls cs as) :
    ∀ (fs : List (Nat × Nat)) (z : Nat) (ls : List Leaf), (∀ (i : Nat) p, fs[i]? = some p → ∃ d, DataW.trod enc P W 0 spare held m p.2 ((cs.drop p.1).take (P.cellsOf p.2)) = some d ∧ ∀ n, n ∈ d.1.weights P p.2 → n ≤ reachBytes) → leavesF f z fs = some ls → ∃ as, ToldW E W ls (cs.drop z) as
  | [], z, ls, h, e => by
    cases e
    exact ⟨[], rfl, fun o l v a e => by simp at e⟩
  | (off, u) :: fs, z, ls, h, e => by
    unfold leavesF at e
    split at e
    · rename_i a hz hu
      have hz := Nat.eq_of_beq_eq_true hz
      subst hz
      split at e
      · rename_i b hb
        cases e
        obtain ⟨d, hd, hdw⟩ := h 0 (off, u) rfl
        obtain ⟨h1, as1, h2, h3⟩ := ih _ _ _ hd hdw _ hu
        obtain ⟨as2, h4, h5⟩ := told_fieldsW ih fs (off + a.length) b (fun i p hp => h (i + 1) p (by simpa using hp)) hb
        have h2 : as1.length = a.length := h2
        have hlen : a.length ≤ P.cellsOf u := by rw [← h1]; simp; omega
        refine ⟨as1 ++ as2, by simp [h2, h4], fun o l v x e1 e2 e3 => ?_⟩
        by_cases ho : o < a.length
        · rw [List.getElem?_append_left ho] at e1
          rw [List.getElem?_append_left (by omega)] at e3
          exact h3 o l v x e1 (by rw [List.getElem?_take, if_pos (Nat.lt_of_lt_of_le ho hlen)]; exact e2) e3
        · rw [List.getElem?_append_right (by omega)] at e1
          rw [List.getElem?_append_right (by omega), h2] at e3
          refine h5 _ l v x e1 ?_ e3
          rw [List.getElem?_drop] at e2 ⊢
          rw [← e2]
          congr 1
          omega
      · cases e
    · cases e
theorem open_okW (K : TbOk E P) (G : Good E) (hD : Reads E) (hB : Heavy E P) : ∀ (fuel : Nat) (t : Nat) (cs : List Value) (x : DataW H × List MemPlace), DataW.trod enc P W 0 spare held fuel t cs = some x → (∀ n, n ∈ x.1.weights P t → n ≤ reachBytes) → ∀ n ls, leaves E n t = some ls → cs.length = ls.length ∧ ∃ as, ToldW E W ls cs as
  | 0, t, cs, x, h, hw, n, ls, hl => by simp [DataW.trod] at h
  | fuel + 1, t, cs, x, h, hw, 0, ls, hl => by cases hl
  | fuel + 1, t, cs, x, h, hW, n + 1, ls, hl => by
    unfold leaves at hl
    split at hl
    · rename_i i hi
      obtain ⟨d, hu, hd⟩ := K.und t i hi
      split at hl
      · rename_i k hk
        cases hl
        rw [hk] at hd
        have := DOk.int hd
        subst this
        obtain ⟨z, rfl, _, hw⟩ := DataW.trod_int hu h
        exact ⟨rfl, _, told_oneW (a := .v (.int k z)) rfl (.int k z hw) (.v _)⟩
      · rename_i hk
        cases hl
        rw [hk] at hd
        have := DOk.bool hd
        subst this
        obtain ⟨b, rfl, _⟩ := DataW.trod_bool hu h
        exact ⟨rfl, _, told_oneW (a := .v (.bool b)) trivial (.bool b) (.v _)⟩
      · rename_i hk
        cases hl
        rw [hk] at hd
        have := DOk.str hd
        subst this
        obtain ⟨s, rfl, _, hw⟩ := DataW.trod_string hu h
        exact ⟨rfl, _, told_oneW (a := .v (.string s)) trivial (.str s hw) (.v _)⟩
      · rename_i e hk
        split at hl
        · rename_i he
          cases hl
          rw [hk] at hd
          have := DOk.slice hd
          subst this
          rcases DataW.trod_slice hu h with ⟨rfl, _⟩ | ⟨a, len, cap, elems, rest, m, hm, rfl, hx0, _, hlc, hcm, hel, hcs, _⟩
          · exact ⟨rfl, _, told_oneW (a := .sl false e []) rfl (.sl e [] (by simp) (fun x hx => by cases hx)) (.nil _ _ _)⟩
          · have hm : m = fuel := by omega
            subst hm
            subst hx0
            have hlen : len ≤ reachBytes := by
              have := hW ((elems.length + rest.length) * P.bytesOf e) (by simp [DataW.weights, hu])
              have h0 := Nat.le_mul_of_pos_right (elems.length + rest.length) (hB t i e hi hk he)
              omega
            have hWe : ∀ (i : Nat) y, elems[i]? = some y → ∀ n, n ∈ y.1.weights P e → n ≤ reachBytes := fun i y hy n hn => hW n (by
              simp only [DataW.weights, hu]
              exact List.mem_cons_of_mem _ (List.mem_append_left _ (weightsAll_mem _ trivial (List.mem_map.2 ⟨y, List.mem_of_getElem? hy, rfl⟩) n hn)))
            obtain ⟨hz, le, h1, h2, h3⟩ := hD e he
            have hsz : P.cellsOf e = szOf E e := by
              obtain ⟨ie, hie⟩ : ∃ ie, E.ti e = some ie := by
                cases hq : E.ti e with
                | none => unfold leaves at h1; rw [hq] at h1; cases h1
                | some ie => exact ⟨ie, rfl⟩
              obtain ⟨hq1, j, _, hj, _⟩ := K.zero e ie hie he
              obtain ⟨j', hj', hj2, _⟩ := K.info e ie hie
              unfold Program.cellsOf
              rw [hj']
              simp only [Option.map_some, Option.getD_some]
              omega
            have each : ∀ i, i < len → ∃ x : Ty e, ∃ ci : List Value, (∀ o, o < szOf E e → W.cell? (a.add (i * szOf E e + o)) = ci[o]?) ∧ ci.length = szOf E e ∧
                ∀ (o : Nat) v av, ci[o]? = some v → ((E.cod e).enc false x)[o]? = some av → FineW E av ∧ Rep E (fun b _ => b < W.heap.size) W v av := by
              intro i hi
              have hq := hcs i hi
              rw [List.getElem?_eq_getElem (by omega), Option.bind_eq_some_iff] at hq
              obtain ⟨ci, hc1, hc2⟩ := hq
              obtain ⟨_, hc3, hc4⟩ := World.cells?_some hc1
              obtain ⟨hl1, as, hl2, hl3⟩ := open_okW K G hD hB m e ci _ hc2 (hWe i _ (List.getElem?_eq_getElem (by omega))) 9 le h1
              obtain ⟨x, hx⟩ := h3 as ⟨hl2, fun o l av e1 e2 => by
                have : o < ci.length := by rw [hl1]; exact get_lt e1
                exact (hl3 o l _ av e1 (List.getElem?_eq_getElem this) e2).1⟩
              have henc := G.dec _ _ _ _ hx
              refine ⟨x, ci, fun o ho => ?_, by rw [hl1, h2], fun o v av e1 e2 => ?_⟩
              · rw [hsz] at hc4
                rw [← hc4 o ho]
                congr 1
                unfold Addr.add
                by_cases i0 : i * szOf E e = 0
                · simp [i0]
                · by_cases o0 : o = 0
                  · simp [o0]
                  · have : ¬ i * szOf E e + o = 0 := by omega
                    simp [i0, o0, this, Nat.add_assoc]
              · rw [henc] at e2
                have ho : o < le.length := by have := get_lt e2; omega
                exact (hl3 o _ v av (List.getElem?_eq_getElem ho) e1 e2).2
            obtain ⟨xs, hx1, hx2⟩ := list_of len each
            refine ⟨rfl, _, told_oneW (a := .sl false e xs) rfl (.sl e xs (by omega) (fun x hx o av e1 => ?_)) ?_⟩
            · obtain ⟨i, hi⟩ := List.getElem?_of_mem hx
              obtain ⟨ci, c1, c2, c3⟩ := hx2 i x hi
              have ho : o < ci.length := by rw [c2]; have := get_lt e1; rw [G.len] at this; exact this
              exact (c3 o _ av (List.getElem?_eq_getElem ho) e1).1
            · subst hx1
              by_cases h0 : xs = []
              · subst h0; exact .nil _ _ _
              · have hpos : 0 < xs.length := by cases xs with
                  | nil => exact absurd rfl h0
                  | cons _ _ => simp
                obtain ⟨ci, c1, c2, _⟩ := hx2 0 _ (List.getElem?_eq_getElem hpos)
                have hcell := c1 0 hz
                rw [List.getElem?_eq_getElem (by omega)] at hcell
                rw [show 0 * szOf E e + 0 = 0 by omega] at hcell
                have hs := World.cell?_spot hcell
                obtain ⟨b, off, spot⟩ := a
                have hspot : spot = none := hs
                subst hspot
                refine .sl b off cap e xs (fun i o => (W.cell? ⟨b, off + (i * szOf E e + o), none⟩).getD undef) hlc (fun i x o av e1 e2 => ?_) (fun i x o av e1 e2 => ?_)
                · obtain ⟨ci, c1, c2, c3⟩ := hx2 i x e1
                  have ho : o < szOf E e := by have := get_lt e2; rw [G.len] at this; exact this
                  have hc := c1 o ho
                  rw [addr_add, List.getElem?_eq_getElem (by omega)] at hc
                  exact ⟨by rw [hc]; rfl, cell_lt hc⟩
                · obtain ⟨ci, c1, c2, c3⟩ := hx2 i x e1
                  have ho : o < szOf E e := by have := get_lt e2; rw [G.len] at this; exact this
                  have hc := c1 o ho
                  rw [addr_add, List.getElem?_eq_getElem (by omega)] at hc
                  have := (c3 o _ av (List.getElem?_eq_getElem (by omega)) e2).2
                  rw [hc]
                  exact this
        · cases hl
      · rename_i fs hk
        split at hl
        · rename_i l hfs
          split at hl
          · rename_i hb
            cases hl
            rw [hk] at hd
            obtain ⟨gs, hgs, hg1, hg2⟩ := DOk.struct hd
            subst hgs
            obtain ⟨xs, m, hm, hx0, hlen, hxl, hf⟩ := DataW.trod_struct hu h
            have hm : m = fuel := by omega
            subst hm
            have hsz : P.cellsOf t = i.sz := by
              obtain ⟨j', hj', hj2, _⟩ := K.info t i hi
              unfold Program.cellsOf
              rw [hj']
              simp only [Option.map_some, Option.getD_some]
              exact hj2
            refine ⟨by rw [hlen, hsz]; exact (Nat.eq_of_beq_eq_true hb).symm, ?_⟩
            have := told_fieldsW (m := m) (cs := cs) (fun t cs x hx hw ls hl => open_okW K G hD hB m t cs x hx hw n ls hl) fs 0 ls (fun q p hp => by
              obtain ⟨f, e1, e2, e3, _⟩ := hg2 q p hp
              have := hf q f e1
              rw [e2, e3] at this
              have hq : q < xs.length := by rw [hxl]; exact (Array.getElem?_eq_some_iff.1 e1).1
              refine ⟨_, this.trans (List.getElem?_eq_getElem hq), fun n hn => hW n ?_⟩
              subst hx0
              simp only [DataW.weights, hu]
              exact DataW.weights_mem_each (j := q) (t := p.2) (by rw [List.getElem?_map, Array.getElem?_toList, e1]; exact congrArg some e3) (by rw [List.getElem?_map, List.getElem?_eq_getElem hq]; rfl) n hn) hfs
            simpa using this
          · cases hl
        · cases hl
      · cases hl
    · cases hl
/-- An element's cells. -/
theorem open_tyW (K : TbOk E P) (G : Good E) (hD : Reads E) (hB : Heavy E P) {fuel t : Nat} {cs : List Value} {x : DataW H × List MemPlace} (h : DataW.trod enc P W 0 spare held fuel t cs = some x) (hw : ∀ n, n ∈ x.1.weights P t → n ≤ reachBytes) (ht : E.has t = true) :
    ∃ y : Ty t, cs.length = szOf E t ∧ ∀ (o : Nat) v a, cs[o]? = some v → ((E.cod t).enc false y)[o]? = some a → FineW E a ∧ Rep E (fun b _ => b < W.heap.size) W v a := by
  obtain ⟨hz, le, h1, h2, h3⟩ := hD t ht
  obtain ⟨hl1, as, hl2, hl3⟩ := open_okW K G hD hB fuel t cs _ h hw 9 le h1
  obtain ⟨y, hy⟩ := h3 as ⟨hl2, fun o l av e1 e2 => by
    have : o < cs.length := by rw [hl1]; exact get_lt e1
    exact (hl3 o l _ av e1 (List.getElem?_eq_getElem this) e2).1⟩
  have henc := G.dec _ _ _ _ hy
  refine ⟨y, by rw [hl1, h2], fun o v av e1 e2 => ?_⟩
  rw [henc] at e2
  have ho : o < le.length := by have := get_lt e2; omega
  exact (hl3 o _ v av (List.getElem?_eq_getElem ho) e1 e2).2
end
end Go.Proofs.Ytggibjbcbicpjaa.Ev
