/- Walks put together: from one label to another; loops. -/
import Derived.Test.YtggibjbcbicpjaaEvK0
namespace Go.Proofs.Ytggibjbcbicpjaa.Ev
open Go
set_option linter.unusedVariables false
abbrev EvR := Option (AV Ty × List (AV Ty))
def Goes (C : Cfg Ty) (U : Cuts) (Rt : St Ty → EvR) (k : List Item) (s : St Ty) (k' : List Item) (s' : St Ty) : Prop :=
  ∃ n0, ∀ n, walk tb C U Rt (n + n0) k s = walk tb C U Rt n k' s'
def Ends (C : Cfg Ty) (U : Cuts) (Rt : St Ty → EvR) (k : List Item) (s : St Ty) (r : EvR) : Prop :=
  ∃ n0, ∀ n, walk tb C U Rt (n + n0) k s = r
section
variable {C : Cfg Ty} {U : Cuts} {Rt : St Ty → EvR} {k k' k'' : List Item} {s s' s'' : St Ty} {r : EvR}
theorem Goes.refl : Goes C U Rt k s k s := ⟨0, fun _ => rfl⟩
theorem Goes.trans (h : Goes C U Rt k s k' s') (g : Goes C U Rt k' s' k'' s'') : Goes C U Rt k s k'' s'' := by
  obtain ⟨a, ha⟩ := h
  obtain ⟨b, hb⟩ := g
  exact ⟨b + a, fun n => by rw [← Nat.add_assoc, ha, hb]⟩
theorem Goes.ends (h : Goes C U Rt k s k' s') (g : Ends C U Rt k' s' r) : Ends C U Rt k s r := by
  obtain ⟨a, ha⟩ := h
  obtain ⟨b, hb⟩ := g
  exact ⟨b + a, fun n => by rw [← Nat.add_assoc, ha, hb]⟩
theorem Goes.step (h : ∀ J : List Item → St Ty → EvR, run tb C U J Rt 4096 k s = J k' s') : Goes C U Rt k s k' s' :=
  ⟨1, fun n => (walk_succ.trans (h _))⟩
theorem Ends.step (h : ∀ J : List Item → St Ty → EvR, run tb C U J Rt 4096 k s = r) : Ends C U Rt k s r :=
  ⟨1, fun n => (walk_succ.trans (h _))⟩
theorem Goes.loop {α : Type} (st : α → St Ty) (Inv Fin : α → Prop) (m : α → Nat)
    (h : ∀ x, Inv x → ¬ Fin x → ∃ y, Inv y ∧ m y < m x ∧ Goes C U Rt k (st x) k (st y)) : ∀ (n : Nat) (x : α), m x < n → Inv x → ∃ y, Inv y ∧ Fin y ∧ Goes C U Rt k (st x) k (st y)
  | 0, x, hm, _ => absurd hm (Nat.not_lt_zero _)
  | n + 1, x, hm, hx => by
    by_cases hf : Fin x
    · exact ⟨x, hx, hf, .refl⟩
    · obtain ⟨y, hy, hl, g⟩ := h x hx hf
      obtain ⟨z, hz, fz, g2⟩ := Goes.loop st Inv Fin m h n y (by omega) hy
      exact ⟨z, hz, fz, g.trans g2⟩
theorem Goes.upto (st : Nat → St Ty) (N : Nat) (h : ∀ i, i < N → Goes C U Rt k (st i) k (st (i + 1))) : ∀ i, i ≤ N → Goes C U Rt k (st 0) k (st i)
  | 0, _ => .refl
  | i + 1, hi => (Goes.upto st N h i (by omega)).trans (h i (by omega))
theorem Ends.at (st : Nat → St Ty) (N : Nat) (P : Nat → Prop) (h : ∀ i, i < N → P i → Goes C U Rt k (st i) k (st (i + 1))) (he : ∀ i, i < N → ¬ P i → Ends C U Rt k (st i) r) :
    ∀ (m i : Nat), i + m = N → (∃ j, i ≤ j ∧ j < N ∧ ¬ P j) → Ends C U Rt k (st i) r
  | 0, i, hi, ⟨j, h1, h2, _⟩ => by omega
  | m + 1, i, hi, ⟨j, h1, h2, h3⟩ => by
    by_cases hp : P i
    · refine (h i (by omega) hp).ends (Ends.at st N P h he m (i + 1) (by omega) ⟨j, ?_, h2, h3⟩)
      rcases Nat.eq_or_lt_of_le h1 with e | e
      · subst e; exact absurd hp h3
      · exact e
    · exact he i (by omega) hp
end
theorem getD_nat {α : Type} (l : List α) (i : Nat) (d : α) : l.getD ((i : Int).toNat) d = l.getD i d := by rw [Int.toNat_natCast]
theorem wrap_nat {x : Int} {n : Nat} (h : x = n) (hn : n ≤ 9223372036854775807) : IntKind.i64.wrap x = (n : Int) := by subst h; exact wrap_up (by omega)
end Go.Proofs.Ytggibjbcbicpjaa.Ev
