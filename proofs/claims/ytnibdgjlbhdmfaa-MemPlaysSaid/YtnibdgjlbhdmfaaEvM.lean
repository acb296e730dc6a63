/- New memory, and what stays true of the rest. -/
import Derived.Test.YtnibdgjlbhdmfaaEvL
namespace Go.Proofs.Ytnibdgjlbhdmfaa.Ev
open Go
set_option linter.unusedVariables false
set_option linter.unusedSimpArgs false
section
variable {Ty : Nat → Type} {E : Tb Ty}
variable {F F' : Set2} {w w' : World} {hp hp' : Heap Ty} {vals vals' : Nat → Value} {sets sets' : Nat → Set2} {P : Program}
theorem VRep.kill0 {ks : List (Nat × Nat)} (hrep : ∀ v a, Rep E F w v a → Rep E F' w' v a)
    (href : ∀ v r p vw f, hit ks r p = false → VRep E F w hp vals v (.ref r p vw f) → VRep E F' w' hp' vals' v (.ref r p vw f))
    (hptr : ∀ v r p i o, hit ks r p = false → VRep E F w hp vals v (.ptr r p i o) → VRep E F' w' hp' vals' v (.ptr r p i o))
    {v : Value} {a : AV Ty} (h : VRep E F w hp vals v a) : VRep E F' w' hp' vals' v (Ev.kill0 ks a) := by
  cases a with
  | v x => cases h with | rep _ _ h => exact .rep _ _ (hrep _ _ h)
  | sl o t xs => cases h with | rep _ _ h => exact .rep _ _ (hrep _ _ h)
  | rp t xs i o => cases h with | rep _ _ h => exact .rep _ _ (hrep _ _ h)
  | box m' t x => cases h with | rep _ _ h => exact .rep _ _ (hrep _ _ h)
  | agg cs => exact .dead _
  | tup cs => exact .dead _
  | ext r p t xs => exact .dead _
  | dead => exact .dead _
  | ref r p vw f =>
    cases e : hit ks r p with
    | true => simp only [Ev.kill0, e]; exact .dead _
    | false => simp only [Ev.kill0, e]; exact href _ _ _ _ _ e h
  | ptr r p i o =>
    cases e : hit ks r p with
    | true => simp only [Ev.kill0, e]; exact .dead _
    | false => simp only [Ev.kill0, e]; exact hptr _ _ _ _ _ e h
theorem VRep.kill1 {ks : List (Nat × Nat)} (hrep : ∀ v a, Rep E F w v a → Rep E F' w' v a)
    (href : ∀ v r p vw f, hit ks r p = false → VRep E F w hp vals v (.ref r p vw f) → VRep E F' w' hp' vals' v (.ref r p vw f))
    (hptr : ∀ v r p i o, hit ks r p = false → VRep E F w hp vals v (.ptr r p i o) → VRep E F' w' hp' vals' v (.ptr r p i o))
    {v : Value} {a : AV Ty} (h : VRep E F w hp vals v a) : VRep E F' w' hp' vals' v (Ev.kill1 ks a) := by
  cases a with
  | agg cs =>
    obtain ⟨vs, rfl, h1, h2⟩ := h.agg'
    refine .agg vs _ (by simp [h1]) (fun i v a e1 e2 => ?_)
    rw [List.getElem?_map] at e2
    cases e3 : cs[i]? with
    | none => rw [e3] at e2; cases e2
    | some a' => rw [e3] at e2; cases e2; exact VRep.kill0 hrep href hptr (h2 i v a' e1 e3)
  | v x => exact VRep.kill0 hrep href hptr h
  | sl o t xs => exact VRep.kill0 hrep href hptr h
  | rp t xs i o => exact VRep.kill0 hrep href hptr h
  | box m' t x => exact VRep.kill0 hrep href hptr h
  | tup cs => exact VRep.kill0 hrep href hptr h
  | dead => exact VRep.kill0 hrep href hptr h
  | ext r p t xs => exact VRep.kill0 hrep href hptr h
  | ref r p vw f => exact VRep.kill0 hrep href hptr h
  | ptr r p i o => exact VRep.kill0 hrep href hptr h
theorem VRep.killB {ks : List (Nat × Nat)} (hrep : ∀ v a, Rep E F w v a → Rep E F' w' v a)
    (href : ∀ v r p vw f, hit ks r p = false → VRep E F w hp vals v (.ref r p vw f) → VRep E F' w' hp' vals' v (.ref r p vw f))
    (hptr : ∀ v r p i o, hit ks r p = false → VRep E F w hp vals v (.ptr r p i o) → VRep E F' w' hp' vals' v (.ptr r p i o))
    {v : Value} {a : AV Ty} (h : VRep E F w hp vals v a) : VRep E F' w' hp' vals' v (Ev.killB ks a) := by
  cases a with
  | tup cs =>
    obtain ⟨vs, rfl, h1, h2⟩ := h.tup'
    refine .tup vs _ (by simp [h1]) (fun i v a e1 e2 => ?_)
    rw [List.getElem?_map] at e2
    cases e3 : cs[i]? with
    | none => rw [e3] at e2; cases e2
    | some a' => rw [e3] at e2; cases e2; exact VRep.kill1 hrep href hptr (h2 i v a' e1 e3)
  | v x => exact VRep.kill1 hrep href hptr h
  | sl o t xs => exact VRep.kill1 hrep href hptr h
  | rp t xs i o => exact VRep.kill1 hrep href hptr h
  | box m' t x => exact VRep.kill1 hrep href hptr h
  | agg cs => exact VRep.kill1 hrep href hptr h
  | dead => exact VRep.kill1 hrep href hptr h
  | ext r p t xs => exact VRep.kill1 hrep href hptr h
  | ref r p vw f => exact VRep.kill1 hrep href hptr h
  | ptr r p i o => exact VRep.kill1 hrep href hptr h
theorem VRep.all (hrep : ∀ v a, Rep E F w v a → Rep E F' w' v a)
    (href : ∀ v r p vw f, VRep E F w hp vals v (.ref r p vw f) → VRep E F' w' hp' vals' v (.ref r p vw f))
    (hptr : ∀ v r p i o, VRep E F w hp vals v (.ptr r p i o) → VRep E F' w' hp' vals' v (.ptr r p i o))
    {v : Value} {a : AV Ty} (h : VRep E F w hp vals v a) : VRep E F' w' hp' vals' v a := by
  induction h with
  | rep v a h => exact .rep _ _ (hrep _ _ h)
  | ref r p vw full v R u row h1 h2 h3 => exact href _ _ _ _ _ (.ref r p vw full v R u row h1 h2 h3)
  | ptr r p i o R b off c row h1 h2 h3 => exact hptr _ _ _ _ _ (.ptr r p i o R b off c row h1 h2 h3)
  | agg vs cs h1 h2 ih => exact .agg vs cs h1 ih
  | tup vs cs h1 h2 ih => exact .tup vs cs h1 ih
  | dead v => exact .dead _
  | ext v r p t xs => exact .ext v r p t xs
theorem VRep.kill {ks : List (Nat × Nat)} (hrep : ∀ v a, Rep E F w v a → Rep E F' w' v a)
    (href : ∀ v r p vw f, hit ks r p = false → VRep E F w hp vals v (.ref r p vw f) → VRep E F' w' hp' vals' v (.ref r p vw f))
    (hptr : ∀ v r p i o, hit ks r p = false → VRep E F w hp vals v (.ptr r p i o) → VRep E F' w' hp' vals' v (.ptr r p i o))
    {v : Value} {a : AV Ty} (h : VRep E F w hp vals v a) : VRep E F' w' hp' vals' v (Ev.killA ks a) := by
  cases ks with
  | nil => exact h.all hrep (fun v r p vw f h => href v r p vw f rfl h) (fun v r p i o h => hptr v r p i o rfl h)
  | cons k l => exact h.killB hrep href hptr
theorem hit_mem {ks : List (Nat × Nat)} {r : Nat} {p : Path} (h : hit ks r p = false) {n : Nat} (hm : (r, n) ∈ ks) : p.length < n := by
  induction ks with
  | nil => cases hm
  | cons k l ih =>
    unfold hit at h
    split at h
    · cases h
    · rename_i e
      rcases List.mem_cons.1 hm with rfl | hm
      · simp only [Nat.beq_refl, Bool.true_and] at e
        rcases Nat.lt_or_ge p.length n with h' | h'
        · exact h'
        · have := Nat.ble_eq_true_of_le h'
          rw [e] at this
          cases this
      · exact ih h hm
theorem Loc.stable {m : Bool} : ∀ {p : Path} {v : Value} {t : Nat} {xs : List (Ty t)} {u : Value} {row : Row Ty} {S : Set2}, Loc E w m v t xs p u row → Own E F w m v t xs S → Good E → (∀ b j, S b j → w'.cell? ⟨b, j, none⟩ = w.cell? ⟨b, j, none⟩) → Loc E w' m v t xs p u row
  | [], _, _, _, _, _, _, h, _, _, _ => h
  | (i, o) :: p, v, t, xs, u, row, S, ⟨b, off, c, x, t', ys, v', h1, h2, h3, h4, h5⟩, ho, G, hS => by
    rcases ho.inv with ⟨_, hnil, _⟩ | ⟨b0, off0, c0, g, B, hv0, R⟩
    · rw [hnil] at h2; simp at h2
    · rw [h1] at hv0
      injection hv0 with e1 e2 e3
      injection e1 with e1
      injection e1 with e1 e4
      subst e1 e4 e3
      have hg : g i o = v' := Option.some.inj ((R.cell i x o _ h2 h3).symm.trans h4)
      have hsub := R.own i x o t' ys h2 h3
      rw [hg] at hsub
      exact ⟨b, off, c, x, t', ys, v', h1, h2, h3, (hS _ _ (R.mem (G.lt R.le h2 h3))).trans h4, Loc.stable h5 hsub G (fun b' j' h => hS _ _ (R.sub h))⟩
/-- The cells of a list of elements, and what they own. -/
structure Cont (E : Tb Ty) (F : Set2) (w : World) (m : Bool) (t : Nat) (zs : List (Ty t)) (vs : List Value) (B : Nat → Nat → Set2) : Prop where
  len : vs.length = zs.length * szOf E t
  one : ∀ v ∈ vs, oneC v = true
  rep : ∀ (i : Nat) x (o : Nat) a v, zs[i]? = some x → ((E.cod t).enc m x)[o]? = some a → vs[i * szOf E t + o]? = some v → ¬ isOwn a → Rep E F w v a
  own : ∀ (i : Nat) x (o : Nat) t' ys v, zs[i]? = some x → ((E.cod t).enc m x)[o]? = some (.sl true t' ys) → vs[i * szOf E t + o]? = some v → Own E F w m v t' ys (B i o)
  dj : ∀ i o i' o' b j, B i o b j → B i' o' b j → i = i' ∧ o = o'
  rg : ∀ i o b j, B i o b j → ∃ x t' ys, zs[i]? = some x ∧ ((E.cod t).enc m x)[o]? = some (.sl true t' ys)
theorem Cont.stable (G : Good E) {m : Bool} {t : Nat} {zs : List (Ty t)} {vs : List Value} {B : Nat → Nat → Set2} (h : Cont E F w m t zs vs B) (hF : ∀ b j, F b j → F' b j ∧ w'.cell? ⟨b, j, none⟩ = w.cell? ⟨b, j, none⟩)
    (hB : ∀ i o b j, B i o b j → w'.cell? ⟨b, j, none⟩ = w.cell? ⟨b, j, none⟩ ∧ w'.frozen? ⟨b, j, none⟩ = w.frozen? ⟨b, j, none⟩ ∧ (F' b j → F b j)) : Cont E F' w' m t zs vs B :=
  ⟨h.len, h.one, fun i x o a v e1 e2 e3 e4 => (h.rep i x o a v e1 e2 e3 e4).stable hF,
   fun i x o t' ys v e1 e2 e3 => (h.own i x o t' ys v e1 e2 e3).stable G hF (fun b j e => ⟨(hB i o b j e).1, (hB i o b j e).2.1⟩) (fun b j e => (hB i o b j e).2.2), h.dj, h.rg⟩
theorem Cont.nil (m : Bool) (t : Nat) : Cont E F w m t [] [] (fun _ _ _ _ => False) :=
  ⟨by simp, by simp, fun i x o a v e => by simp at e, fun i x o t' ys v e => by simp at e, fun _ _ _ _ _ _ h => h.elim, fun _ _ _ _ h => h.elim⟩
theorem Cont.append {m : Bool} {t : Nat} {zs zs' : List (Ty t)} {vs vs' : List Value} {B B' : Nat → Nat → Set2} (G : Good E) (h : Cont E F w m t zs vs B) (h' : Cont E F w m t zs' vs' B') (hd : ∀ i o i' o' b j, B i o b j → ¬ B' i' o' b j) :
    Cont E F w m t (zs ++ zs') (vs ++ vs') (fun i o => if i < zs.length then B i o else B' (i - zs.length) o) := by
  have split : ∀ (i : Nat) x (o : Nat) a, (zs ++ zs')[i]? = some x → ((E.cod t).enc m x)[o]? = some a → (i < zs.length ∧ zs[i]? = some x ∧ ∀ v, (vs ++ vs')[i * szOf E t + o]? = some v → vs[i * szOf E t + o]? = some v) ∨
      (¬ i < zs.length ∧ zs'[i - zs.length]? = some x ∧ ∀ v, (vs ++ vs')[i * szOf E t + o]? = some v → vs'[(i - zs.length) * szOf E t + o]? = some v) := by
    intro i x o a e1 e2
    have ho : o < szOf E t := by have := get_lt e2; rw [G.len] at this; exact this
    by_cases hi : i < zs.length
    · refine .inl ⟨hi, by rw [List.getElem?_append_left hi] at e1; exact e1, fun v e => ?_⟩
      rw [List.getElem?_append_left (by rw [h.len]; exact lt_cells hi (Nat.le_refl _) ho)] at e
      exact e
    · refine .inr ⟨hi, by rw [List.getElem?_append_right (by omega)] at e1; exact e1, fun v e => ?_⟩
      have hge : zs.length * szOf E t ≤ i * szOf E t := Nat.mul_le_mul_right _ (by omega)
      rw [List.getElem?_append_right (by rw [h.len]; omega), h.len] at e
      rw [Nat.sub_mul]
      rw [show i * szOf E t - zs.length * szOf E t + o = i * szOf E t + o - zs.length * szOf E t by omega]
      exact e
  refine ⟨by simp [h.len, h'.len, Nat.add_mul], fun v hv => ?_, fun i x o a v e1 e2 e3 e4 => ?_, fun i x o t' ys v e1 e2 e3 => ?_, fun i o i' o' b j e1 e2 => ?_, fun i o b j e => ?_⟩
  · rcases List.mem_append.1 hv with hv | hv
    · exact h.one v hv
    · exact h'.one v hv
  · rcases split i x o a e1 e2 with ⟨_, k1, k2⟩ | ⟨_, k1, k2⟩
    · exact h.rep i x o a v k1 e2 (k2 v e3) e4
    · exact h'.rep _ x o a v k1 e2 (k2 v e3) e4
  · rcases split i x o _ e1 e2 with ⟨k0, k1, k2⟩ | ⟨k0, k1, k2⟩
    · rw [if_pos k0]; exact h.own i x o t' ys v k1 e2 (k2 v e3)
    · rw [if_neg k0]; exact h'.own _ x o t' ys v k1 e2 (k2 v e3)
  · split at e1 <;> split at e2
    · exact h.dj _ _ _ _ _ _ e1 e2
    · exact absurd e2 (hd _ _ _ _ _ _ e1)
    · exact absurd e1 (hd _ _ _ _ _ _ e2)
    · have := h'.dj _ _ _ _ _ _ e1 e2; omega
  · split at e
    · rename_i hi
      obtain ⟨x, t', ys, k1, k2⟩ := h.rg _ _ _ _ e
      exact ⟨x, t', ys, by rw [List.getElem?_append_left hi]; exact k1, k2⟩
    · rename_i hi
      obtain ⟨x, t', ys, k1, k2⟩ := h'.rg _ _ _ _ e
      exact ⟨x, t', ys, by rw [List.getElem?_append_right (by omega)]; exact k1, k2⟩
theorem cell_alloc_old {w : World} {o : Obj} {b j : Nat} (h : b < w.heap.size) : (w.alloc o).cell? ⟨b, j, none⟩ = w.cell? ⟨b, j, none⟩ := World.cell?_alloc_lt _ _ _ h
theorem frozen_alloc_old {w : World} {o : Obj} {b j : Nat} (h : b < w.heap.size) : (w.alloc o).frozen? ⟨b, j, none⟩ = w.frozen? ⟨b, j, none⟩ :=
  World.frozen?_of_block (w := w) (Go.RowKit.Below.heap_alloc w o b h)
theorem frozen_alloc_new {w : World} {cs : Array Value} {T j : Nat} : (w.alloc (.cells cs T)).frozen? ⟨w.heap.size, j, none⟩ = false := by
  unfold World.frozen?
  show (match (w.heap.push (.cells cs T))[w.heap.size]? with | some (.cells _ _ (lo, hi)) => decide (lo ≤ j) && decide (j < hi) | _ => false) = false
  rw [Array.getElem?_push, if_pos rfl]
  simp
theorem cell_lt {w : World} {b j : Nat} {v : Value} (h : w.cell? ⟨b, j, none⟩ = some v) : b < w.heap.size := by
  unfold World.cell? at h
  split at h
  · rename_i e; exact (Array.getElem?_eq_some_iff.1 e).1
  · cases h
/-- A new block holds what was laid into it. -/
theorem alloc_own (G : Good E) {m : Bool} {t : Nat} {zs : List (Ty t)} {vs : List Value} {B : Nat → Nat → Set2} (h : Cont E F w m t zs vs B) {c T : Nat} {cells : Array Value} (hc : cells.size = c * szOf E t) (hn : zs.length ≤ c) (hv : ∀ (k : Nat) v, vs[k]? = some v → cells[k]? = some v)
    (hF : ∀ b j, F b j → b < w.heap.size) : Own E F (w.alloc (.cells cells T)) m (.slice (some ⟨w.heap.size, 0, none⟩) zs.length c) t zs (fun b j => (b = w.heap.size ∧ j < c * szOf E t) ∨ ∃ i o, B i o b j) := by
  have hB : ∀ i o b j, B i o b j → b < w.heap.size := by
    intro i o b j e
    obtain ⟨x, t', ys, k1, k2⟩ := h.rg _ _ _ _ e
    have hlt : i * szOf E t + o < vs.length := by rw [h.len]; exact G.lt (Nat.le_refl _) k1 k2
    obtain ⟨⟨u, hu⟩, _⟩ := (h.own i x o t' ys _ k1 k2 (List.getElem?_eq_getElem hlt)).free b j e
    exact cell_lt hu
  refine (OwnR.toOwn (g := fun i o => vs.getD (i * szOf E t + o) undef) (B := B) ⟨hn, fun j hj => ?_, fun i x o a e1 e2 => ?_, fun i x o a e1 e2 e3 => ?_, fun i x o t' ys e1 e2 => ?_, h.dj, fun i o j hj e => ?_, h.rg, fun b' j' => ?_⟩)
  · simp only [Nat.zero_add]
    refine ⟨⟨cells[j]'(by omega), ?_⟩, frozen_alloc_new, fun h => ?_⟩
    · rw [World.cell?_alloc_new, Array.getElem?_eq_getElem]
    · have := hF _ _ h; omega
  · have hlt : i * szOf E t + o < vs.length := by rw [h.len]; exact G.lt (Nat.le_refl _) e1 e2
    simp only [Nat.zero_add]
    rw [World.cell?_alloc_new, getD_of (List.getElem?_eq_getElem hlt)]
    exact hv _ _ (List.getElem?_eq_getElem hlt)
  · have hlt : i * szOf E t + o < vs.length := by rw [h.len]; exact G.lt (Nat.le_refl _) e1 e2
    rw [getD_of (List.getElem?_eq_getElem hlt)]
    exact (h.rep i x o a _ e1 e2 (List.getElem?_eq_getElem hlt) e3).stable fun b j h => ⟨h, cell_alloc_old (hF _ _ h)⟩
  · have hlt : i * szOf E t + o < vs.length := by rw [h.len]; exact G.lt (Nat.le_refl _) e1 e2
    rw [getD_of (List.getElem?_eq_getElem hlt)]
    exact (h.own i x o t' ys _ e1 e2 (List.getElem?_eq_getElem hlt)).stable G (fun b j h => ⟨h, cell_alloc_old (hF _ _ h)⟩) (fun b j e => ⟨cell_alloc_old (hB _ _ _ _ e), frozen_alloc_old (hB _ _ _ _ e)⟩) (fun b j _ h => h)
  · have := hB _ _ _ _ e; omega
  · simp only [Nat.zero_add, Nat.zero_le, true_and]
/-- What is kept of the world at the start: all but the cells X. -/
structure Keep (X : Set2) (W w : World) : Prop where
  os : w.os = W.os
  tape : w.tape = W.tape
  output : w.output = W.output
  size : W.heap.size ≤ w.heap.size
  block : ∀ k, k < W.heap.size → (∀ j, ¬ X k j) → w.heap[k]? = W.heap[k]?
  cell : ∀ b j, b < W.heap.size → ¬ X b j → w.cell? ⟨b, j, none⟩ = W.cell? ⟨b, j, none⟩ ∧ w.frozen? ⟨b, j, none⟩ = W.frozen? ⟨b, j, none⟩
theorem Keep.refl (X : Set2) (W : World) : Keep X W W := ⟨rfl, rfl, rfl, Nat.le_refl _, fun _ _ _ => rfl, fun _ _ _ _ => ⟨rfl, rfl⟩⟩
theorem Keep.alloc {X : Set2} {W w : World} (h : Keep X W w) (o : Obj) : Keep X W (w.alloc o) where
  os := h.os
  tape := h.tape
  output := h.output
  size := by rw [World.size_alloc]; exact Nat.le_succ_of_le h.size
  block := fun k hk hx => (Go.RowKit.Below.heap_alloc w o k (Nat.lt_of_lt_of_le hk h.size)).trans (h.block k hk hx)
  cell := fun b j hb hx => ⟨(cell_alloc_old (Nat.lt_of_lt_of_le hb h.size)).trans (h.cell b j hb hx).1, (frozen_alloc_old (Nat.lt_of_lt_of_le hb h.size)).trans (h.cell b j hb hx).2⟩
theorem Keep.drew {X : Set2} {W w : World} (h : Keep X W w) : Keep X W { w with drawn := w.drawn + 1 } := ⟨h.os, h.tape, h.output, h.size, h.block, h.cell⟩
theorem Keep.wrote {X : Set2} {W w w' : World} {b base : Nat} {vs : List Value} (h : Keep X W w) (k : Wrote w w' b base vs) (hx : ∀ j, base ≤ j → j < base + vs.length → X b j ∨ W.heap.size ≤ b) : Keep X W w' where
  os := k.os.trans h.os
  tape := k.tape.trans h.tape
  output := k.output.trans h.output
  size := by rw [k.size]; exact h.size
  block := fun i hi hxi => by
    by_cases e : i = b
    · subst e
      cases vs with
      | nil => exact (k.block i (.inr rfl)).trans (h.block i hi hxi)
      | cons v vs =>
        rcases hx base (Nat.le_refl _) (by simp) with h' | h'
        · exact absurd h' (hxi _)
        · omega
    · exact (k.block i (.inl e)).trans (h.block i hi hxi)
  cell := fun b' j hb hxb => by
    refine ⟨?_, (k.fro b' j).trans (h.cell b' j hb hxb).2⟩
    rw [k.out b' j (fun ⟨e1, e2, e3⟩ => ?_)]
    · exact (h.cell b' j hb hxb).1
    · subst e1
      rcases hx j e2 e3 with h' | h'
      · exact hxb h'
      · omega
end
end Go.Proofs.Ytnibdgjlbhdmfaa.Ev
