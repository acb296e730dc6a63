/- What the evaluator's values say of the machine's memory: frozen rows, owned rows; and what keeps them true. -/
import Derived.Test.YtnibdgjlbhdmfaaEvA
namespace Go.Proofs.Ytnibdgjlbhdmfaa.Ev
open Go
set_option linter.unusedVariables false
abbrev Set2 := Nat → Nat → Prop
def Agree (S : Set2) (w w' : World) : Prop := ∀ b j, S b j → w'.cell? ⟨b, j, none⟩ = w.cell? ⟨b, j, none⟩ ∧ w'.frozen? ⟨b, j, none⟩ = w.frozen? ⟨b, j, none⟩
section
variable {Ty : Nat → Type} (E : Tb Ty)
abbrev szOf (t : Nat) : Nat := (E.cod t).sz
/-- A frozen value: what it leads to is as told. -/
inductive Rep (F : Set2) (w : World) : Value → AV Ty → Prop
  | v (x : Value) : Rep F w x (.v x)
  | nil (A : Option Addr) (c t : Nat) : Rep F w (.slice A 0 c) (.sl false t [])
  | sl (b off c t : Nat) (xs : List (Ty t)) (g : Nat → Nat → Value) : xs.length ≤ c →
      (∀ (i : Nat) x (o : Nat) a, xs[i]? = some x → ((E.cod t).enc false x)[o]? = some a → w.cell? ⟨b, off + (i * szOf E t + o), none⟩ = some (g i o) ∧ F b (off + (i * szOf E t + o))) →
      (∀ (i : Nat) x (o : Nat) a, xs[i]? = some x → ((E.cod t).enc false x)[o]? = some a → Rep F w (g i o) a) →
      Rep F w (.slice (some ⟨b, off, none⟩) xs.length c) (.sl false t xs)
  | rp (b off t : Nat) (xs : List (Ty t)) (i₀ o₀ : Nat) (g : Nat → Nat → Value) : i₀ < xs.length →
      (∀ (i : Nat) x (o : Nat) a, xs[i]? = some x → ((E.cod t).enc false x)[o]? = some a → w.cell? ⟨b, off + (i * szOf E t + o), none⟩ = some (g i o) ∧ F b (off + (i * szOf E t + o))) →
      (∀ (i : Nat) x (o : Nat) a, xs[i]? = some x → ((E.cod t).enc false x)[o]? = some a → Rep F w (g i o) a) →
      Rep F w (.pointer (some ⟨b, off + (i₀ * szOf E t + o₀), none⟩)) (.rp t xs i₀ o₀)
  | agg (vs : Array Value) (cs : List (AV Ty)) : vs.size = cs.length → (∀ (i : Nat) v a, vs[i]? = some v → cs[i]? = some a → Rep F w v a) → Rep F w (.agg vs) (.agg cs)
  | tup (vs : Array Value) (cs : List (AV Ty)) : vs.size = cs.length → (∀ (i : Nat) v a, vs[i]? = some v → cs[i]? = some a → Rep F w v a) → Rep F w (.tuple vs) (.tup cs)
def oneC : Value → Bool
  | .agg _ | .tuple _ => false
  | _ => true
def isOwn : AV Ty → Prop
  | .sl true _ _ => True
  | _ => False
/-- An owned row: S: all cells that it and what it leads to own. -/
inductive Own (F : Set2) (w : World) (m : Bool) : Value → (t : Nat) → List (Ty t) → Set2 → Prop
  | nil (A : Option Addr) (t : Nat) (S : Set2) : (∀ b j, ¬ S b j) → Own F w m (.slice A 0 0) t [] S
  | row (b off c t : Nat) (xs : List (Ty t)) (g : Nat → Nat → Value) (B : Nat → Nat → Set2) (S : Set2) : xs.length ≤ c →
      (∀ j, j < c * szOf E t → (∃ v, w.cell? ⟨b, off + j, none⟩ = some v) ∧ w.frozen? ⟨b, off + j, none⟩ = false ∧ ¬ F b (off + j)) →
      (∀ (i : Nat) x (o : Nat) a, xs[i]? = some x → ((E.cod t).enc m x)[o]? = some a → w.cell? ⟨b, off + (i * szOf E t + o), none⟩ = some (g i o)) →
      (∀ (i : Nat) x (o : Nat) a, xs[i]? = some x → ((E.cod t).enc m x)[o]? = some a → ¬ isOwn a → Rep E F w (g i o) a) →
      (∀ (i : Nat) x (o : Nat) t' ys, xs[i]? = some x → ((E.cod t).enc m x)[o]? = some (.sl true t' ys) → Own F w m (g i o) t' ys (B i o)) →
      (∀ i o i' o' b' j', B i o b' j' → B i' o' b' j' → i = i' ∧ o = o') →
      (∀ i o j, j < c * szOf E t → ¬ B i o b (off + j)) →
      (∀ i o b' j', B i o b' j' → ∃ x t' ys, xs[i]? = some x ∧ ((E.cod t).enc m x)[o]? = some (.sl true t' ys)) →
      (∀ b' j', S b' j' ↔ (b' = b ∧ off ≤ j' ∧ j' < off + c * szOf E t) ∨ ∃ i o, B i o b' j') →
      Own F w m (.slice (some ⟨b, off, none⟩) xs.length c) t xs S
/-- What the codes must keep. -/
structure Good : Prop where
  len : ∀ t m x, ((E.cod t).enc m x).length = szOf E t
  cell : ∀ t m x a, a ∈ (E.cod t).enc m x → (∃ y : Value, a = .v y ∧ oneC y = true) ∨ ∃ q t' ys, a = .sl q t' ys ∧ (q = true → m = true)
  dec : ∀ t m cs x, (E.cod t).dec m cs = some x → (E.cod t).enc m x = cs
  flip : ∀ t x (o : Nat) t' ys, ((E.cod t).enc true x)[o]? = some (AV.sl true t' ys) → ((E.cod t).enc false x)[o]? = some (AV.sl false t' ys)
  flat : ∀ t, E.flat t = true → ∀ x, (E.cod t).enc true x = (E.cod t).enc false x ∧ ∀ m a, a ∈ (E.cod t).enc m x → ∃ y, a = .v y
  flip' : ∀ t x (o : Nat) a, ((E.cod t).enc true x)[o]? = some a → ¬ isOwn a → ((E.cod t).enc false x)[o]? = some a
  sole : ∀ t, E.sole t = true → ∀ x a, a ∈ (E.cod t).enc true x → (∃ y, a = .v y) ∨ ∃ t' ys, a = .sl true t' ys ∧ E.sole t' = true
variable {E}
theorem Rep.stable {F F' : Set2} {w w' : World} (h : ∀ b j, F b j → F' b j ∧ w'.cell? ⟨b, j, none⟩ = w.cell? ⟨b, j, none⟩) {v : Value} {a : AV Ty} (hr : Rep E F w v a) : Rep E F' w' v a := by
  induction hr with
  | v x => exact .v x
  | nil A c t => exact .nil A c t
  | sl b off c t xs g hl hc hr ih =>
    refine .sl b off c t xs g hl (fun i x o a h1 h2 => ?_) ih
    obtain ⟨h3, h4⟩ := hc i x o a h1 h2
    exact ⟨(h _ _ h4).2.trans h3, (h _ _ h4).1⟩
  | rp b off t xs i o g hl hc hr ih =>
    refine .rp b off t xs i o g hl (fun i x o a h1 h2 => ?_) ih
    obtain ⟨h3, h4⟩ := hc i x o a h1 h2
    exact ⟨(h _ _ h4).2.trans h3, (h _ _ h4).1⟩
  | agg vs cs hl hr ih => exact .agg vs cs hl ih
  | tup vs cs hl hr ih => exact .tup vs cs hl ih
theorem Good.frozen (G : Good E) {t : Nat} {x : Ty t} {o t' : Nat} {ys : List (Ty t')} (h : ((E.cod t).enc false x)[o]? = some (.sl true t' ys)) : False := by
  rcases G.cell _ _ _ _ (List.mem_of_getElem? h) with ⟨y, hy, _⟩ | ⟨q, t'', ys', hy, hq⟩
  · cases hy
  · cases hy; cases hq rfl
theorem lt_cells {i n c z o : Nat} (hi : i < n) (hn : n ≤ c) (ho : o < z) : i * z + o < c * z := by
  have h1 : (i + 1) * z ≤ c * z := Nat.mul_le_mul_right z (by omega)
  rw [Nat.succ_mul] at h1
  omega
theorem get_lt {α : Type} {l : List α} {i : Nat} {a : α} (h : l[i]? = some a) : i < l.length := by
  rcases Nat.lt_or_ge i l.length with h' | h'
  · exact h'
  · rw [List.getElem?_eq_none h'] at h; cases h
theorem Good.lt (G : Good E) {t : Nat} {m : Bool} {xs : List (Ty t)} {c i o : Nat} {x : Ty t} {a : AV Ty} (hl : xs.length ≤ c) (h1 : xs[i]? = some x) (h2 : ((E.cod t).enc m x)[o]? = some a) : i * szOf E t + o < c * szOf E t :=
  lt_cells (get_lt h1) hl (by have := get_lt h2; rw [G.len] at this; exact this)
theorem Own.stable (G : Good E) {F F' : Set2} {w w' : World} {m : Bool} (hF : ∀ b j, F b j → F' b j ∧ w'.cell? ⟨b, j, none⟩ = w.cell? ⟨b, j, none⟩) {v : Value} {t : Nat} {xs : List (Ty t)} {S : Set2}
    (ho : Own E F w m v t xs S) (hS : Agree S w w') (hd : ∀ b j, S b j → F' b j → F b j) : Own E F' w' m v t xs S := by
  induction ho with
  | nil A t S h => exact .nil A t S h
  | row b off c t xs g B S h1 h2 h3 h4 h5 h6 h7 h8 h9 ih =>
    have hb : ∀ j, j < c * szOf E t → S b (off + j) := fun j hj => (h9 _ _).2 (.inl ⟨rfl, by omega, by omega⟩)
    have hB : ∀ i o b' j', B i o b' j' → S b' j' := fun i o b' j' h => (h9 _ _).2 (.inr ⟨i, o, h⟩)
    refine .row b off c t xs g B S h1 (fun j hj => ?_) (fun i x o a e1 e2 => ?_) (fun i x o a e1 e2 e3 => ?_) (fun i x o t' ys e1 e2 => ?_) h6 h7 h8 h9
    · obtain ⟨⟨v, hv⟩, hf, hn⟩ := h2 j hj
      have := hS _ _ (hb j hj)
      exact ⟨⟨v, this.1.trans hv⟩, this.2.trans hf, fun h => hn (hd _ _ (hb j hj) h)⟩
    · have e3 := h3 i x o a e1 e2
      exact ((hS _ _ (hb _ (G.lt h1 e1 e2))).1).trans e3
    · exact (h4 i x o a e1 e2 e3).stable hF
    · exact ih i x o t' ys e1 e2 (fun b' j' h => hS _ _ (hB _ _ _ _ h)) (fun b' j' h => hd _ _ (hB _ _ _ _ h))
end
end Go.Proofs.Ytnibdgjlbhdmfaa.Ev
