/- What can be read as data is a value that the evaluator knows. -/
import Derived.Test.YtnibdgjlbhdmfaaEvZB
import Derived.ChangeArms
import Derived.DataReads
namespace Go.Proofs.Ytnibdgjlbhdmfaa.Ev
open Go
set_option linter.unusedVariables false
set_option linter.unusedSimpArgs false
inductive Leaf where
  | int (k : IntKind)
  | bool
  | str
  | sl (e : Nat)
section
variable {Ty : Nat → Type} (E : Tb Ty)
def leavesF (f : Nat → Option (List Leaf)) : Nat → List (Nat × Nat) → Option (List Leaf)
  | _, [] => some []
  | z, (off, u) :: l => match Nat.beq off z, f u with
    | true, some a => match leavesF f (z + a.length) l with
      | some b => some (a ++ b)
      | none => none
    | _, _ => none
/-- What lies in the cells of a type, one by one. -/
def leaves : Nat → Nat → Option (List Leaf)
  | 0, _ => none
  | n + 1, t => match E.ti t with
    | some i => match i.d with
      | .int k => some [.int k]
      | .bool => some [.bool]
      | .str => some [.str]
      | .slice e => match E.has e with
        | true => some [.sl e]
        | false => none
      | .struct fs => match leavesF (leaves n) 0 fs with
        | some l => match Nat.beq l.length i.sz with
          | true => some l
          | false => none
        | none => none
      | _ => none
    | none => none
def leafA : Leaf → AV Ty → Prop
  | .int k, .v (.int k' _) => k' = k
  | .bool, .v (.bool _) => True
  | .str, .v (.string _) => True
  | .sl e, .sl false t _ => t = e
  | _, _ => False
/-- Numbers within their kind, rows and strings that a machine can hold. -/
inductive FineA : AV Ty → Prop
  | int (k n) : (Lit.int k n).wf = true → FineA (.v (.int k n))
  | bool (b) : FineA (.v (.bool b))
  | str (s : ByteArray) : s.size ≤ maxLen → FineA (.v (.string s))
  | sl (t) (xs : List (Ty t)) : xs.length ≤ maxLen → (∀ x, x ∈ xs → ∀ (o : Nat) a, ((E.cod t).enc false x)[o]? = some a → FineA a) → FineA (.sl false t xs)
def Match (ls : List Leaf) (as : List (AV Ty)) : Prop := as.length = ls.length ∧ ∀ (o : Nat) l a, ls[o]? = some l → as[o]? = some a → leafA l a
/-- The table reads every element's cells. -/
def Reads : Prop := ∀ t, E.has t = true → 0 < szOf E t ∧ ∃ ls, leaves E 9 t = some ls ∧ ls.length = szOf E t ∧ ∀ as, Match ls as → ∃ x, (E.cod t).dec false as = some x
theorem leaf_int {k : IntKind} {a : AV Ty} (h : leafA (.int k) a) : ∃ n, a = .v (.int k n) := by
  cases a with
  | v x => cases x with
    | int k' n => have h : k' = k := h; subst h; exact ⟨n, rfl⟩
    | _ => exact False.elim h
  | _ => exact False.elim h
theorem leaf_bool {a : AV Ty} (h : leafA .bool a) : ∃ b, a = .v (.bool b) := by
  cases a with
  | v x => cases x with
    | bool b => exact ⟨b, rfl⟩
    | _ => exact False.elim h
  | _ => exact False.elim h
theorem leaf_str {a : AV Ty} (h : leafA .str a) : ∃ b, a = .v (.string b) := by
  cases a with
  | v x => cases x with
    | string b => exact ⟨b, rfl⟩
    | _ => exact False.elim h
  | _ => exact False.elim h
theorem leaf_sl {e : Nat} {a : AV Ty} (h : leafA (.sl e) a) : ∃ xs, a = .sl false e xs := by
  cases a with
  | sl o t xs => cases o with
    | false => have h : t = e := h; subst h; exact ⟨xs, rfl⟩
    | true => exact False.elim h
  | _ => exact False.elim h
theorem list_of {α : Type} {Q : Nat → α → Prop} : ∀ n, (∀ i, i < n → ∃ x, Q i x) → ∃ xs : List α, xs.length = n ∧ ∀ (i : Nat) x, xs[i]? = some x → Q i x
  | 0, _ => ⟨[], rfl, fun i x e => by simp at e⟩
  | n + 1, h => by
    obtain ⟨xs, h1, h2⟩ := list_of n fun i hi => h i (by omega)
    obtain ⟨x, hx⟩ := h n (by omega)
    refine ⟨xs ++ [x], by simp [h1], fun i y e => ?_⟩
    by_cases hi : i < n
    · rw [List.getElem?_append_left (by omega)] at e; exact h2 i y e
    · rw [List.getElem?_append_right (by omega)] at e
      have := get_lt e
      simp at this
      have : i = n := by omega
      subst this
      simp [h1] at e
      subst e
      exact hx
variable {E}
variable {P : Program} {W : World} {H : Type} {enc : TypeId × Value → H} {spare : Nat → Bool} {held : Bool}
/-- What is told of cells. -/
def Told (E : Tb Ty) (W : World) (ls : List Leaf) (cs : List Value) (as : List (AV Ty)) : Prop :=
  as.length = ls.length ∧ ∀ (o : Nat) l v a, ls[o]? = some l → cs[o]? = some v → as[o]? = some a → leafA l a ∧ FineA E a ∧ Rep E (fun b _ => b < W.heap.size) W v a
theorem told_one {l : Leaf} {v : Value} {a : AV Ty} (h1 : leafA l a) (h2 : FineA E a) (h3 : Rep E (fun b _ => b < W.heap.size) W v a) : Told E W [l] [v] [a] := by
  refine ⟨rfl, fun o l' v' a' e1 e2 e3 => ?_⟩
  cases o with
  | zero => cases e1; cases e2; cases e3; exact ⟨h1, h2, h3⟩
  | succ o => simp at e1
theorem told_fields {m : Nat} {f : Nat → Option (List Leaf)} {cs : List Value} (ih : ∀ t cs x, DataW.trod enc P W 0 spare held m t cs = some x → ∀ ls, f t = some ls → cs.length = ls.length ∧ ∃ as, Told E W ls cs as) :
    ∀ (fs : List (Nat × Nat)) (z : Nat) (ls : List Leaf), (∀ (i : Nat) p, fs[i]? = some p → ∃ d, DataW.trod enc P W 0 spare held m p.2 ((cs.drop p.1).take (P.cellsOf p.2)) = some d) → leavesF f z fs = some ls → ∃ as, Told E W ls (cs.drop z) as
  | [], z, ls, h, e => by
    cases e
    exact ⟨[], rfl, fun o l v a e => by simp at e⟩
  | (off, u) :: fs, z, ls, h, e => by
    unfold leavesF at e
    split at e
    · rename_i a hz hu
      have hz := Nat.eq_of_beq_eq_true hz
      subst hz
      split at e
      · rename_i b hb
        cases e
        obtain ⟨d, hd⟩ := h 0 (off, u) rfl
        obtain ⟨h1, as1, h2, h3⟩ := ih _ _ _ hd _ hu
        obtain ⟨as2, h4, h5⟩ := told_fields ih fs (off + a.length) b (fun i p hp => h (i + 1) p (by simpa using hp)) hb
        have h2 : as1.length = a.length := h2
        have hlen : a.length ≤ P.cellsOf u := by rw [← h1]; simp; omega
        refine ⟨as1 ++ as2, by simp [h2, h4], fun o l v x e1 e2 e3 => ?_⟩
        by_cases ho : o < a.length
        · rw [List.getElem?_append_left ho] at e1
          rw [List.getElem?_append_left (by omega)] at e3
          exact h3 o l v x e1 (by rw [List.getElem?_take, if_pos (Nat.lt_of_lt_of_le ho hlen)]; exact e2) e3
        · rw [List.getElem?_append_right (by omega)] at e1
          rw [List.getElem?_append_right (by omega), h2] at e3
          refine h5 _ l v x e1 ?_ e3
          rw [List.getElem?_drop] at e2 ⊢
          rw [← e2]
          congr 1
          omega
      · cases e
    · cases e
theorem open_ok (K : TbOk E P) (G : Good E) (hD : Reads E) : ∀ (fuel : Nat) (t : Nat) (cs : List Value) (x : DataW H × List MemPlace), DataW.trod enc P W 0 spare held fuel t cs = some x → ∀ n ls, leaves E n t = some ls → cs.length = ls.length ∧ ∃ as, Told E W ls cs as
  | 0, t, cs, x, h, n, ls, hl => by simp [DataW.trod] at h
  | fuel + 1, t, cs, x, h, 0, ls, hl => by cases hl
  | fuel + 1, t, cs, x, h, n + 1, ls, hl => by
    unfold leaves at hl
    split at hl
    · rename_i i hi
      obtain ⟨d, hu, hd⟩ := K.und t i hi
      split at hl
      · rename_i k hk
        cases hl
        rw [hk] at hd
        have := DOk.int hd
        subst this
        obtain ⟨z, rfl, _, hw⟩ := DataW.trod_int hu h
        exact ⟨rfl, _, told_one (a := .v (.int k z)) rfl (.int k z hw) (.v _)⟩
      · rename_i hk
        cases hl
        rw [hk] at hd
        have := DOk.bool hd
        subst this
        obtain ⟨b, rfl, _⟩ := DataW.trod_bool hu h
        exact ⟨rfl, _, told_one (a := .v (.bool b)) trivial (.bool b) (.v _)⟩
      · rename_i hk
        cases hl
        rw [hk] at hd
        have := DOk.str hd
        subst this
        obtain ⟨s, rfl, _, hw⟩ := DataW.trod_string hu h
        exact ⟨rfl, _, told_one (a := .v (.string s)) trivial (.str s hw) (.v _)⟩
      · rename_i e hk
        split at hl
        · rename_i he
          cases hl
          rw [hk] at hd
          have := DOk.slice hd
          subst this
          rcases DataW.trod_slice hu h with ⟨rfl, _⟩ | ⟨a, len, cap, elems, rest, m, hm, rfl, _, _, hlc, hcm, hel, hcs, _⟩
          · exact ⟨rfl, _, told_one (a := .sl false e []) rfl (.sl e [] (by simp) (fun x hx => by cases hx)) (.nil _ _ _)⟩
          · have hm : m = fuel := by omega
            subst hm
            obtain ⟨hz, le, h1, h2, h3⟩ := hD e he
            have hsz : P.cellsOf e = szOf E e := by
              obtain ⟨ie, hie⟩ : ∃ ie, E.ti e = some ie := by
                cases hq : E.ti e with
                | none => unfold leaves at h1; rw [hq] at h1; cases h1
                | some ie => exact ⟨ie, rfl⟩
              obtain ⟨hq1, j, _, hj, _⟩ := K.zero e ie hie he
              obtain ⟨j', hj', hj2, _⟩ := K.info e ie hie
              unfold Program.cellsOf
              rw [hj']
              simp only [Option.map_some, Option.getD_some]
              omega
            have each : ∀ i, i < len → ∃ x : Ty e, ∃ ci : List Value, (∀ o, o < szOf E e → W.cell? (a.add (i * szOf E e + o)) = ci[o]?) ∧ ci.length = szOf E e ∧
                ∀ (o : Nat) v av, ci[o]? = some v → ((E.cod e).enc false x)[o]? = some av → FineA E av ∧ Rep E (fun b _ => b < W.heap.size) W v av := by
              intro i hi
              have hq := hcs i hi
              rw [List.getElem?_eq_getElem (by omega), Option.bind_eq_some_iff] at hq
              obtain ⟨ci, hc1, hc2⟩ := hq
              obtain ⟨_, hc3, hc4⟩ := World.cells?_some hc1
              obtain ⟨hl1, as, hl2, hl3⟩ := open_ok K G hD m e ci _ hc2 9 le h1
              obtain ⟨x, hx⟩ := h3 as ⟨hl2, fun o l av e1 e2 => by
                have : o < ci.length := by rw [hl1]; exact get_lt e1
                exact (hl3 o l _ av e1 (List.getElem?_eq_getElem this) e2).1⟩
              have henc := G.dec _ _ _ _ hx
              refine ⟨x, ci, fun o ho => ?_, by rw [hl1, h2], fun o v av e1 e2 => ?_⟩
              · rw [hsz] at hc4
                rw [← hc4 o ho]
                congr 1
                unfold Addr.add
                by_cases i0 : i * szOf E e = 0
                · simp [i0]
                · by_cases o0 : o = 0
                  · simp [o0]
                  · have : ¬ i * szOf E e + o = 0 := by omega
                    simp [i0, o0, this, Nat.add_assoc]
              · rw [henc] at e2
                have ho : o < le.length := by have := get_lt e2; omega
                exact (hl3 o _ v av (List.getElem?_eq_getElem ho) e1 e2).2
            obtain ⟨xs, hx1, hx2⟩ := list_of len each
            refine ⟨rfl, _, told_one (a := .sl false e xs) rfl (.sl e xs (by omega) (fun x hx o av e1 => ?_)) ?_⟩
            · obtain ⟨i, hi⟩ := List.getElem?_of_mem hx
              obtain ⟨ci, c1, c2, c3⟩ := hx2 i x hi
              have ho : o < ci.length := by rw [c2]; have := get_lt e1; rw [G.len] at this; exact this
              exact (c3 o _ av (List.getElem?_eq_getElem ho) e1).1
            · subst hx1
              by_cases h0 : xs = []
              · subst h0; exact .nil _ _ _
              · have hpos : 0 < xs.length := by cases xs with
                  | nil => exact absurd rfl h0
                  | cons _ _ => simp
                obtain ⟨ci, c1, c2, _⟩ := hx2 0 _ (List.getElem?_eq_getElem hpos)
                have hcell := c1 0 hz
                rw [List.getElem?_eq_getElem (by omega)] at hcell
                rw [show 0 * szOf E e + 0 = 0 by omega] at hcell
                have hs := World.cell?_spot hcell
                obtain ⟨b, off, spot⟩ := a
                have hspot : spot = none := hs
                subst hspot
                refine .sl b off cap e xs (fun i o => (W.cell? ⟨b, off + (i * szOf E e + o), none⟩).getD undef) hlc (fun i x o av e1 e2 => ?_) (fun i x o av e1 e2 => ?_)
                · obtain ⟨ci, c1, c2, c3⟩ := hx2 i x e1
                  have ho : o < szOf E e := by have := get_lt e2; rw [G.len] at this; exact this
                  have hc := c1 o ho
                  rw [addr_add, List.getElem?_eq_getElem (by omega)] at hc
                  exact ⟨by rw [hc]; rfl, cell_lt hc⟩
                · obtain ⟨ci, c1, c2, c3⟩ := hx2 i x e1
                  have ho : o < szOf E e := by have := get_lt e2; rw [G.len] at this; exact this
                  have hc := c1 o ho
                  rw [addr_add, List.getElem?_eq_getElem (by omega)] at hc
                  have := (c3 o _ av (List.getElem?_eq_getElem (by omega)) e2).2
                  rw [hc]
                  exact this
        · cases hl
      · rename_i fs hk
        split at hl
        · rename_i l hfs
          split at hl
          · rename_i hb
            cases hl
            rw [hk] at hd
            obtain ⟨gs, hgs, hg1, hg2⟩ := DOk.struct hd
            subst hgs
            obtain ⟨xs, m, hm, _, hlen, hxl, hf⟩ := DataW.trod_struct hu h
            have hm : m = fuel := by omega
            subst hm
            have hsz : P.cellsOf t = i.sz := by
              obtain ⟨j', hj', hj2, _⟩ := K.info t i hi
              unfold Program.cellsOf
              rw [hj']
              simp only [Option.map_some, Option.getD_some]
              exact hj2
            refine ⟨by rw [hlen, hsz]; exact (Nat.eq_of_beq_eq_true hb).symm, ?_⟩
            have := told_fields (m := m) (cs := cs) (fun t cs x hx ls hl => open_ok K G hD m t cs x hx n ls hl) fs 0 ls (fun q p hp => by
              obtain ⟨f, e1, e2, e3, _⟩ := hg2 q p hp
              have := hf q f e1
              rw [e2, e3] at this
              have hq : q < xs.length := by rw [hxl]; exact (Array.getElem?_eq_some_iff.1 e1).1
              exact ⟨_, this.trans (List.getElem?_eq_getElem hq)⟩) hfs
            simpa using this
          · cases hl
        · cases hl
      · cases hl
    · cases hl
/-- An element's cells. -/
theorem open_ty (K : TbOk E P) (G : Good E) (hD : Reads E) {fuel t : Nat} {cs : List Value} {x : DataW H × List MemPlace} (h : DataW.trod enc P W 0 spare held fuel t cs = some x) (ht : E.has t = true) :
    ∃ y : Ty t, cs.length = szOf E t ∧ ∀ (o : Nat) v a, cs[o]? = some v → ((E.cod t).enc false y)[o]? = some a → FineA E a ∧ Rep E (fun b _ => b < W.heap.size) W v a := by
  obtain ⟨hz, le, h1, h2, h3⟩ := hD t ht
  obtain ⟨hl1, as, hl2, hl3⟩ := open_ok K G hD fuel t cs _ h 9 le h1
  obtain ⟨y, hy⟩ := h3 as ⟨hl2, fun o l av e1 e2 => by
    have : o < cs.length := by rw [hl1]; exact get_lt e1
    exact (hl3 o l _ av e1 (List.getElem?_eq_getElem this) e2).1⟩
  have henc := G.dec _ _ _ _ hy
  refine ⟨y, by rw [hl1, h2], fun o v av e1 e2 => ?_⟩
  rw [henc] at e2
  have ho : o < le.length := by have := get_lt e2; omega
  exact (hl3 o _ v av (List.getElem?_eq_getElem ho) e1 e2).2
/-- A row. -/
theorem open_row (K : TbOk E P) (G : Good E) (hD : Reads E) {t e : Nat} {i : TI} (hi : E.ti t = some i) (hd : i.d = .slice e) (he : E.has e = true) {A : Option Addr} {n c : Nat} {fuel : Nat} {x : DataW H × List MemPlace} (h : DataW.trod enc P W 0 spare held fuel t [.slice A n c] = some x) :
    ∃ xs : List (Ty e), Rep E (fun b _ => b < W.heap.size) W (.slice A n c) (.sl false e xs) ∧ FineA E (.sl false e xs) := by
  obtain ⟨_, as, h1, h2⟩ := open_ok K G hD fuel t _ _ h 1 [.sl e] (by unfold leaves; rw [hi]; simp only [hd, he])
  match as, h1 with
  | [a], _ =>
    obtain ⟨k1, k2, k3⟩ := h2 0 (.sl e) _ a rfl rfl rfl
    obtain ⟨xs, rfl⟩ := leaf_sl k1
    exact ⟨xs, k3, k2⟩
/-- Nothing is handed over to be written: what was there stands. -/
theorem Keep.below {W' : World} {X : Set2} (h : Keep X W W') (hX : ∀ b j, ¬ X b j) : Go.RowKit.Below W.heap.size W W' :=
  ⟨h.os, h.tape, h.output, h.size, fun k hk => h.block k hk fun j => hX k j⟩
end
end Go.Proofs.Ytnibdgjlbhdmfaa.Ev
