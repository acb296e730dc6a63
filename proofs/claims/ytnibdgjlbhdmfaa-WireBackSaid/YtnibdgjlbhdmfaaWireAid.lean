/- The plain side of wire: what its numbers' bytes are, and that the program's and the document's functions come to just these. -/
import Derived.Test.YtnibdgjlbhdmfaaMWireTellsx2
import Derived.Test.YtnibdgjlbhdmfaaMWireTellsx3
import Derived.Laws.BitsLemmas
namespace Go.Proofs.Ytnibdgjlbhdmfaa.WireAid
open Go.RowKit Go.Proofs.Ytnibdgjlbhdmfaa.MWireTells Go.Proofs.YtnibdgjlbhdmfaaW.PrintWords Go.Proofs.YtnibdgjlbhdmfaaW.PrintLast Go.Proofs.YtnibdgjlbhdmfaaW.PrintMore

/-- The digits of a number to the base 256, the highest first. -/
def digs (u : Nat) : List Int := if _h : u = 0 then [] else digs (u / 256) ++ [((u % 256 : Nat) : Int)]
termination_by u
decreasing_by omega
theorem digs_zero : digs 0 = [] := by unfold digs; simp
theorem digs_pos {u : Nat} (h : u ≠ 0) : digs u = digs (u / 256) ++ [((u % 256 : Nat) : Int)] := by rw [digs, dif_neg h]
/-- What a row of digits comes to. -/
def val (l : List Int) : Int := l.foldl (fun a d => a * 256 + d) 0
theorem val_nil : val [] = 0 := rfl
theorem val_snoc (l : List Int) (d : Int) : val (l ++ [d]) = val l * 256 + d := by simp [val]
theorem val_digs : ∀ u, val (digs u) = (u : Int) := by
  intro u
  induction u using Nat.strongRecOn with
  | ind u ih =>
    by_cases h : u = 0
    · subst h; rw [digs_zero]; rfl
    · rw [digs_pos h, val_snoc, ih (u / 256) (by omega)]; omega
theorem digs_byte : ∀ u, ∀ x ∈ digs u, 0 ≤ x ∧ x < 256 := by
  intro u
  induction u using Nat.strongRecOn with
  | ind u ih =>
    intro x hx
    by_cases h : u = 0
    · subst h; rw [digs_zero] at hx; cases hx
    · rw [digs_pos h] at hx
      rcases List.mem_append.1 hx with hx | hx
      · exact ih (u / 256) (by omega) x hx
      · have := List.mem_singleton.1 hx; omega
theorem digs_len_le : ∀ (k u : Nat), u < 256 ^ k → (digs u).length ≤ k := by
  intro k
  induction k with
  | zero => intro u h; have : u = 0 := by omega
            subst this; rw [digs_zero]; simp
  | succ k ih =>
    intro u h
    by_cases h0 : u = 0
    · subst h0; rw [digs_zero]; simp
    · rw [digs_pos h0]
      have := ih (u / 256) (by rw [Nat.pow_succ] at h; omega)
      simp; omega
theorem digs_len_gt : ∀ (k u : Nat), 256 ^ k ≤ u → k < (digs u).length := by
  intro k
  induction k with
  | zero => intro u h; rw [digs_pos (by omega)]; simp
  | succ k ih =>
    intro u h
    have hp : 0 < 256 ^ k := Nat.pow_pos (by decide)
    rw [Nat.pow_succ] at h
    have := ih (u / 256) (by omega)
    rw [digs_pos (by omega)]; simp; omega
theorem digs_head {u : Nat} (h : u ≠ 0) : ∃ d r, digs u = d :: r ∧ 0 < d := by
  induction u using Nat.strongRecOn with
  | ind u ih =>
    by_cases h1 : u / 256 = 0
    · rw [digs_pos h, h1, digs_zero]
      exact ⟨_, [], rfl, by omega⟩
    · obtain ⟨d, r, e, hd⟩ := ih (u / 256) (by omega) h1
      rw [digs_pos h, e]
      exact ⟨d, r ++ [((u % 256 : Nat) : Int)], rfl, hd⟩
theorem snoc_ind {P : List Int → Prop} (h0 : P []) (hs : ∀ l d, P l → P (l ++ [d])) (l : List Int) : P l := by
  have : ∀ l : List Int, P l.reverse := by
    intro l
    induction l with
    | nil => exact h0
    | cons d l ih => rw [List.reverse_cons]; exact hs _ _ ih
  have h := this l.reverse
  rwa [List.reverse_reverse] at h
/-- Bytes: numbers from 0 to 255. -/
def Bytes (l : List Int) : Prop := ∀ x ∈ l, 0 ≤ x ∧ x < 256
theorem Bytes.left {a b : List Int} (h : Bytes (a ++ b)) : Bytes a := fun x hx => h x (List.mem_append_left _ hx)
theorem Bytes.right {a b : List Int} (h : Bytes (a ++ b)) : Bytes b := fun x hx => h x (List.mem_append_right _ hx)
theorem Bytes.append {a b : List Int} (h : Bytes a) (k : Bytes b) : Bytes (a ++ b) := fun x hx => (List.mem_append.1 hx).elim (h x) (k x)
theorem Bytes.one {x : Int} (h : 0 ≤ x ∧ x < 256) : Bytes [x] := fun y hy => by rw [List.mem_singleton.1 hy]; exact h
theorem Bytes.take {l : List Int} (h : Bytes l) (n : Nat) : Bytes (l.take n) := fun x hx => h x (List.mem_of_mem_take hx)
theorem Bytes.drop {l : List Int} (h : Bytes l) (n : Nat) : Bytes (l.drop n) := fun x hx => h x (List.mem_of_mem_drop hx)
theorem digs_bytes (u : Nat) : Bytes (digs u) := digs_byte u
theorem val_bounds : ∀ l : List Int, Bytes l → 0 ≤ val l ∧ val l < 256 ^ l.length := by
  intro l
  induction l using snoc_ind with
  | h0 => intro _; simp [val_nil]
  | hs l d ih =>
    intro h
    have h1 := ih h.left
    have h2 := h.right d (by simp)
    rw [val_snoc, List.length_append, List.length_singleton, Int.pow_succ]
    omega
theorem val_pos_of_head : ∀ l : List Int, Bytes l → l ≠ [] → (∀ d r, l = d :: r → d ≠ 0) → 0 < val l := by
  intro l
  induction l using snoc_ind with
  | h0 => intro _ h; exact absurd rfl h
  | hs l d ih =>
    intro h _ hd
    rw [val_snoc]
    have h2 := h.right d (by simp)
    by_cases hl : l = []
    · subst hl
      have := hd d [] rfl
      rw [val_nil]; omega
    · have := ih h.left hl (fun e r he => hd e (r ++ [d]) (by rw [he]; rfl))
      omega
/-- A row of bytes whose first is not 0 is the digits of what it comes to. -/
theorem digs_val : ∀ l : List Int, Bytes l → (∀ d r, l = d :: r → d ≠ 0) → digs (val l).toNat = l := by
  intro l
  induction l using snoc_ind with
  | h0 => intro _ _; rw [val_nil]; exact digs_zero
  | hs l d ih =>
    intro h hd
    have h2 := h.right d (by simp)
    have hp := val_pos_of_head (l ++ [d]) h (by simp) hd
    have hb := val_bounds l h.left
    rw [digs_pos (by omega)]
    rw [val_snoc] at hp ⊢
    have e1 : (val l * 256 + d).toNat / 256 = (val l).toNat := by omega
    have e2 : (((val l * 256 + d).toNat % 256 : Nat) : Int) = d := by omega
    rw [e1, e2]
    by_cases hl : l = []
    · subst hl; rw [val_nil]; simp [digs_zero]
    · rw [ih h.left (fun e r he => hd e (r ++ [d]) (by rw [he]; rfl))]

/-! ### the program's Put -/
theorem w64 {a : Int} (h : -9223372036854775808 ≤ a ∧ a ≤ 9223372036854775807) : wrap64 a = a := by unfold wrap64; omega
theorem u64 {a : Int} (h : 0 ≤ a ∧ a < 18446744073709551616) : IntKind.u64.wrap a = a := by
  have : IntKind.u64.wrap a = a % 18446744073709551616 := by simp [IntKind.wrap, IntKind.signed, IntKind.bits]
  rw [this]; omega
theorem pow256 (i : Nat) : (2 : Int) ^ (8 * i) = ((256 ^ i : Nat) : Int) := by
  rw [Int.pow_mul]; simp
theorem shr8 (u i : Nat) (hi : i ≤ 8) : shr .u64 (u : Int) (8 * (i : Int)) = ((u / 256 ^ i : Nat) : Int) := by
  unfold shr
  have h1 : min (8 * (i : Int)).toNat IntKind.u64.bits = 8 * i := by
    show min _ 64 = _
    omega
  rw [h1, pow256, Int.natCast_ediv]
/-- The count's arithmetic, in one word. -/
theorem cnt (i : Nat) (hi : i ≤ 8) : IntKind.u64.wrap (wrap64 (8 * (i : Int))) = 8 * (i : Int) := by rw [w64 (by omega), u64 (by omega)]
theorem put_count (x5 : List Int) (x6 : Int) (u : Nat) (hu : u < 256 ^ 8) (d : Nat) : ∀ (k i : Nat), i + d = (digs u).length → d < k →
    wire_Put.l0 k x5 x6 u i = wire_Put.j2 (k - d - 1) x5 x6 u ((digs u).length : Nat) := by
  have hlen := digs_len_le 8 u hu
  induction d with
  | zero =>
    intro k i hi hk
    obtain ⟨k, rfl⟩ : ∃ m, k = m + 1 := ⟨k - 1, by omega⟩
    simp only [wire_Put.l0]
    have e : i = (digs u).length := by omega
    by_cases h8 : (i : Int) < 8
    · rw [if_pos h8, cnt i (by omega), if_pos (by omega), shr8 u i (by omega)]
      have h0 : u / 256 ^ i = 0 := by
        by_cases hh : 256 ^ i ≤ u
        · have := digs_len_gt i u hh; omega
        · exact Nat.div_eq_of_lt (by omega)
      rw [h0, if_pos (show ((0 : Nat) : Int) = 0 from rfl), e]; rfl
    · rw [if_neg h8, e]; rfl
  | succ d ih =>
    intro k i hi hk
    obtain ⟨k, rfl⟩ : ∃ m, k = m + 1 := ⟨k - 1, by omega⟩
    simp only [wire_Put.l0]
    have hp : 0 < 256 ^ i := Nat.pow_pos (by decide)
    have hle : 256 ^ i ≤ u := by
      by_cases hh : u < 256 ^ i
      · have := digs_len_le i u hh; omega
      · omega
    have hne : u / 256 ^ i ≠ 0 := by
      have := Nat.div_pos hle hp; omega
    rw [if_pos (by omega), cnt i (by omega), if_pos (by omega), shr8 u i (by omega), if_neg (by omega), w64 (by omega)]
    have := ih k (i + 1) (by omega) (by omega)
    rw [show ((i : Int) + 1) = ((i + 1 : Nat) : Int) by omega, this]
    congr 1; omega
/-- The lowest n digits. -/
def low : Nat → Nat → List Int
  | 0, _ => []
  | n + 1, u => ((u / 256 ^ n % 256 : Nat) : Int) :: low n u
theorem low_snoc : ∀ (n u : Nat), low (n + 1) u = low n (u / 256) ++ [((u % 256 : Nat) : Int)] := by
  intro n
  induction n with
  | zero => intro u; simp [low]
  | succ n ih =>
    intro u
    have h := ih u
    have : low (n + 2) u = ((u / 256 ^ (n + 1) % 256 : Nat) : Int) :: low (n + 1) u := rfl
    rw [this, h]
    have e : u / 256 ^ (n + 1) = u / 256 / 256 ^ n := by rw [Nat.pow_succ, Nat.mul_comm, Nat.div_div_eq_div_mul]
    rw [e]; rfl
theorem low_digs : ∀ u, low (digs u).length u = digs u := by
  intro u
  induction u using Nat.strongRecOn with
  | ind u ih =>
    by_cases h : u = 0
    · subst h; rw [digs_zero]; rfl
    · have e : (digs u).length = (digs (u / 256)).length + 1 := by rw [digs_pos h]; simp
      rw [e, low_snoc, ih (u / 256) (by omega), ← digs_pos h]
theorem put_emit (u : Nat) : ∀ (n k : Nat) (x5 : List Int), n ≤ 8 → n < k → x5.length + n < 140737488355328 →
    wire_Put.l1 k x5 u ((n : Int) - 1) = some (x5 ++ low n u) := by
  intro n
  induction n with
  | zero =>
    intro k x5 _ hk _
    obtain ⟨k, rfl⟩ : ∃ m, k = m + 1 := ⟨k - 1, by omega⟩
    simp only [wire_Put.l1]
    rw [if_neg (by omega)]; simp [low]
  | succ n ih =>
    intro k x5 h8 hk hl
    obtain ⟨k, rfl⟩ : ∃ m, k = m + 1 := ⟨k - 1, by omega⟩
    simp only [wire_Put.l1]
    rw [show (((n + 1 : Nat) : Int) - 1) = (n : Int) by omega, if_pos (by omega), cnt n (by omega), if_pos (by omega), if_pos (by omega), shr8 u n (by omega), w64 (by omega)]
    rw [ih k _ (by omega) (by omega) (by simp; omega)]
    simp [low]
/-- The bytes of a number. -/
def enc (n : Int) : List Int :=
  if n < 0 then ((16 + (digs (-1 - n).toNat).length : Nat) : Int) :: digs (-1 - n).toNat else (((digs n.toNat).length : Nat) : Int) :: digs n.toNat
def R64 (n : Int) : Prop := -9223372036854775808 ≤ n ∧ n ≤ 9223372036854775807
theorem put_is (l : List Int) (n : Int) (hn : R64 n) (hl : l.length ≤ 140737488355000) (k : Nat) (hk : 30 ≤ k) : wire_Put.f k l n = some (l ++ enc n) := by
  obtain ⟨h1, h2⟩ := hn
  have key : ∀ (u : Nat) (s : Int), (s = 0 ∨ s = 16) → u < 9223372036854775808 → wire_Put.j0 k (u : Int) l s = some (l ++ (s + (digs u).length) :: digs u) := by
    intro u s hs hu
    have hu8 : u < 256 ^ 8 := by omega
    have hlen := digs_len_le 8 u hu8
    obtain ⟨k, rfl⟩ : ∃ m, k = m + 1 := ⟨k - 1, by omega⟩
    simp only [wire_Put.j0]
    rw [u64 (by omega)]
    have := put_count l s u hu8 (digs u).length k 0 (by omega) (by omega)
    rw [show ((0 : Nat) : Int) = 0 from rfl] at this
    rw [this]
    obtain ⟨k2, hk2⟩ : ∃ m, k - (digs u).length - 1 = m + 1 := ⟨k - (digs u).length - 2, by omega⟩
    rw [hk2]
    simp only [wire_Put.j2]
    rw [if_pos (by omega), w64 (by omega), put_emit u _ _ _ hlen (by omega) (by simp; omega), low_digs]
    have : (s + ((digs u).length : Int) % 256) % 256 = s + (digs u).length := by omega
    rw [this]; simp
  unfold wire_Put.f
  simp only [Option.bind_some, List.length_nil, List.nil_append]
  rw [if_pos (by omega)]
  by_cases hneg : n < 0
  · rw [if_pos hneg, w64 (by omega)]
    have := key (-1 - n).toNat 16 (.inr rfl) (by omega)
    rw [show (((-1 - n).toNat : Nat) : Int) = -1 - n by omega] at this
    rw [this, enc, if_pos hneg]; simp
  · rw [if_neg hneg]
    have := key n.toNat 0 (.inl rfl) (by omega)
    rw [show ((n.toNat : Nat) : Int) = n by omega] at this
    rw [this, enc, if_neg hneg]; simp

/-! ### the document's Put -/
theorem and255 (u : Nat) (hu : u < 18446744073709551616) : Go.bits .and .u64 (u : Int) 255 = ((u % 256 : Nat) : Int) := by
  have h := Go.bits_mask .u64 64 (by decide) (fun n h0 h1 => u64 ⟨h0, by omega⟩) 8 (by decide) (u : Int) (by omega) (by omega)
  have e : ((2 : Int) ^ 8 - 1) = 255 := by decide
  rw [e] at h
  rw [h]; omega
theorem ref_put_loop (l : List Int) (s : Int) (hs : s = 0 ∨ s = 16) : ∀ (u : Nat) (k : Nat) (r : List Int), u < 18446744073709551616 → (digs u).length < k → (digs u).length + r.length ≤ 8 → l.length ≤ 140737488355000 →
    plnref1_Put.l0 k l u s r = some (l ++ (s + ((digs u).length + r.length : Nat)) :: (digs u ++ r)) := by
  intro u
  induction u using Nat.strongRecOn with
  | ind u ih =>
    intro k r hu hk hlen hl
    obtain ⟨k, rfl⟩ : ∃ m, k = m + 1 := ⟨k - 1, by omega⟩
    simp only [plnref1_Put.l0]
    by_cases h : u = 0
    · subst h
      rw [digs_zero] at *
      simp only [List.length_nil, List.nil_append, Option.bind_some, List.length_append, List.length_singleton, Nat.zero_add] at *
      rw [if_neg (by omega), if_pos (by omega), if_pos (by omega), if_pos (by omega), w64 (by omega)]
      have : (s + (r.length : Int)) % 256 = s + r.length := by omega
      rw [this]; simp
    · have e : (digs u).length = (digs (u / 256)).length + 1 := by rw [digs_pos h]; simp
      rw [if_pos (by omega), and255 u hu]
      simp only [Option.bind_some, List.length_singleton]
      rw [if_pos (by omega)]
      have h2 := ih (u / 256) (by omega) k ([((u % 256 : Nat) : Int) % 256] ++ r) (by omega) (by omega) (by simp; omega) hl
      rw [show ((u : Int) / 256) = ((u / 256 : Nat) : Int) by omega, h2]
      have e2 : ((u % 256 : Nat) : Int) % 256 = ((u % 256 : Nat) : Int) := by omega
      rw [e2, digs_pos h]
      simp
      omega
theorem ref_put_is (l : List Int) (n : Int) (hn : R64 n) (hl : l.length ≤ 140737488355000) (k : Nat) (hk : 30 ≤ k) : plnref1_Put.f k l n = some (l ++ enc n) := by
  obtain ⟨h1, h2⟩ := hn
  have key : ∀ (u : Nat) (s : Int), (s = 0 ∨ s = 16) → u < 9223372036854775808 → plnref1_Put.j0 k l (u : Int) s = some (l ++ (s + (digs u).length) :: digs u) := by
    intro u s hs hu
    have hlen := digs_len_le 8 u (by omega)
    obtain ⟨k, rfl⟩ : ∃ m, k = m + 1 := ⟨k - 1, by omega⟩
    simp only [plnref1_Put.j0]
    have := ref_put_loop l s hs u k [] (by omega) (by omega) (by simp; omega) hl
    rw [this]; simp
  unfold plnref1_Put.f
  by_cases hneg : n < 0
  · rw [if_pos hneg, w64 (by omega), u64 (by omega)]
    have := key (-1 - n).toNat 16 (.inr rfl) (by omega)
    rw [show (((-1 - n).toNat : Nat) : Int) = -1 - n by omega] at this
    rw [this, enc, if_pos hneg]; simp
  · rw [if_neg hneg, u64 (by omega)]
    have := key n.toNat 0 (.inl rfl) (by omega)
    rw [show ((n.toNat : Nat) : Int) = n by omega] at this
    rw [this, enc, if_neg hneg]; simp

/-! ### Get -/
/-- What stands at a place. -/
def getK (b : Int) : Int := if 16 ≤ b then b - 16 else b
def get (l : List Int) (at_ : Int) : Int × Int × Int :=
  if at_ < 0 ∨ (l.length : Int) < at_ then (0, 0, 8)
  else if at_ = l.length then (0, 0, 1)
  else if 8 < getK (rd l at_) ∨ (l.length : Int) - at_ - 1 < getK (rd l at_) ∨ (0 < getK (rd l at_) ∧ rd l (at_ + 1) = 0) then (0, 0, 1)
  else if 9223372036854775808 ≤ val ((l.drop (at_ + 1).toNat).take (getK (rd l at_)).toNat) then (0, 0, 1)
  else if 16 ≤ rd l at_ then (-1 - val ((l.drop (at_ + 1).toNat).take (getK (rd l at_)).toNat), at_ + 1 + getK (rd l at_), 0)
  else (val ((l.drop (at_ + 1).toNat).take (getK (rd l at_)).toNat), at_ + 1 + getK (rd l at_), 0)
theorem rd_byte {l : List Int} (h : Bytes l) (i : Int) (h0 : 0 ≤ i) (h1 : i < l.length) : 0 ≤ rd l i ∧ rd l i < 256 := by
  unfold rd
  have hi : i.toNat < l.length := by omega
  rw [List.getD_eq_getElem?_getD, List.getElem?_eq_getElem hi]
  exact h _ (List.getElem_mem hi)
theorem or_byte (a b : Int) (ha0 : 0 ≤ a) (ha : a < 72057594037927936) (hb0 : 0 ≤ b) (hb : b < 256) : Go.bits .or .u64 (IntKind.u64.wrap (a * 256)) (IntKind.u64.wrap b) = a * 256 + b := by
  rw [u64 (by omega), u64 (by omega)]
  exact Go.bits_join .u64 64 (by decide) (fun n h0 h1 => u64 ⟨h0, by omega⟩) 8 (a * 256) b (by omega) (by omega) (by omega) hb0 (by omega) (by omega)
theorem take_snoc_rd (l : List Int) (i : Nat) (h : i < l.length) : l.take (i + 1) = l.take i ++ [rd l i] := by
  rw [List.take_succ_eq_append_getElem h]
  unfold rd
  rw [List.getD_eq_getElem?_getD, Int.toNat_natCast, List.getElem?_eq_getElem h]; rfl
theorem rd_drop (l : List Int) (a i : Nat) : rd (l.drop a) i = rd l ((a : Int) + i) := by
  unfold rd
  rw [List.getD_eq_getElem?_getD, List.getD_eq_getElem?_getD, List.getElem?_drop]
  congr 2

/-- How both loops end. -/
def fin (l : List Int) (p m : Nat) (b : Bool) : Int × Int × Int :=
  if 9223372036854775808 ≤ val ((l.drop (p + 1)).take m) then (0, 0, 1)
  else if b = true then (-1 - val ((l.drop (p + 1)).take m), (p : Int) + 1 + m, 0) else (val ((l.drop (p + 1)).take m), (p : Int) + 1 + m, 0)
theorem acc_small (l : List Int) (hb : Bytes l) (p i : Nat) (hi : i ≤ 7) : 0 ≤ val ((l.drop (p + 1)).take i) ∧ val ((l.drop (p + 1)).take i) < 72057594037927936 := by
  have h := val_bounds _ ((hb.drop (p + 1)).take i)
  have h2 : (256 : Nat) ^ ((l.drop (p + 1)).take i).length ≤ 256 ^ 7 := Nat.pow_le_pow_right (by decide) (Nat.le_trans (List.length_take_le _ _) hi)
  have h3 : (256 : Int) ^ ((l.drop (p + 1)).take i).length = ((256 ^ ((l.drop (p + 1)).take i).length : Nat) : Int) := (Int.natCast_pow 256 _).symm
  rw [h3] at h
  omega
theorem acc_all (l : List Int) (hb : Bytes l) (p i : Nat) (hi : i ≤ 8) : 0 ≤ val ((l.drop (p + 1)).take i) ∧ val ((l.drop (p + 1)).take i) < 18446744073709551616 := by
  have h := val_bounds _ ((hb.drop (p + 1)).take i)
  have h2 : (256 : Nat) ^ ((l.drop (p + 1)).take i).length ≤ 256 ^ 8 := Nat.pow_le_pow_right (by decide) (Nat.le_trans (List.length_take_le _ _) hi)
  have h3 : (256 : Int) ^ ((l.drop (p + 1)).take i).length = ((256 ^ ((l.drop (p + 1)).take i).length : Nat) : Int) := (Int.natCast_pow 256 _).symm
  rw [h3] at h
  omega
theorem acc_step (l : List Int) (p i : Nat) (h : p + 1 + i < l.length) : val ((l.drop (p + 1)).take (i + 1)) = val ((l.drop (p + 1)).take i) * 256 + rd l ((p : Int) + 1 + i) := by
  rw [take_snoc_rd _ i (by simp; omega), val_snoc, rd_drop]
  rw [show (((p + 1 : Nat) : Int) + i) = (p : Int) + 1 + i by omega]
theorem get_loop (l : List Int) (hb : Bytes l) (hl : l.length ≤ 140737488355000) (p m : Nat) (hm : m ≤ 8) (hp : p + 1 + m ≤ l.length) (b : Bool) (d : Nat) : ∀ (k i : Nat), i + d = m → d < k →
    wire_Get.l0 k l p m b (val ((l.drop (p + 1)).take i)) ((i : Int) + 1) = some (fin l p m b) := by
  induction d with
  | zero =>
    intro k i hi hk
    obtain ⟨k, rfl⟩ : ∃ m, k = m + 1 := ⟨k - 1, by omega⟩
    obtain rfl : i = m := by omega
    simp only [wire_Get.l0]
    have ha := acc_all l hb p i hm
    rw [if_neg (by omega)]
    unfold fin
    generalize val ((l.drop (p + 1)).take i) = v at *
    by_cases hv : 9223372036854775808 ≤ v
    · rw [if_pos hv, if_pos hv]
    · rw [if_neg (by omega), if_neg hv, w64 (a := (p : Int) + 1) (by omega), w64 (a := (p : Int) + 1 + i) (by omega), w64 (a := v) (by omega), w64 (a := -1 - v) (by omega)]
      cases b <;> rfl
  | succ d ih =>
    intro k i hi hk
    obtain ⟨k, rfl⟩ : ∃ m, k = m + 1 := ⟨k - 1, by omega⟩
    simp only [wire_Get.l0]
    have ha := acc_small l hb p i (by omega)
    have hr := rd_byte hb ((p : Int) + 1 + i) (by omega) (by omega)
    rw [if_pos (by omega), w64 (a := (p : Int) + ((i : Int) + 1)) (by omega), if_pos (by omega), if_pos (by omega), w64 (a := (i : Int) + 1 + 1) (by omega)]
    rw [show (p : Int) + ((i : Int) + 1) = (p : Int) + 1 + i by omega, or_byte _ _ ha.1 ha.2 hr.1 hr.2, ← acc_step l p i (by omega)]
    have := ih k (i + 1) (by omega) (by omega)
    rw [show (((i + 1 : Nat) : Int) + 1) = (i : Int) + 1 + 1 by omega] at this
    exact this
theorem ref_get_loop (l : List Int) (hb : Bytes l) (hl : l.length ≤ 140737488355000) (p m : Nat) (hm : m ≤ 8) (hp : p + 1 + m ≤ l.length) (b : Bool) (d : Nat) : ∀ (k i : Nat), i + d = m → d < k →
    plnref1_Get.l0 k l p m b (val ((l.drop (p + 1)).take i)) (i : Int) = some (fin l p m b) := by
  induction d with
  | zero =>
    intro k i hi hk
    obtain ⟨k, rfl⟩ : ∃ m, k = m + 1 := ⟨k - 1, by omega⟩
    obtain rfl : i = m := by omega
    simp only [plnref1_Get.l0]
    have ha := acc_all l hb p i hm
    rw [if_neg (by omega)]
    unfold fin
    generalize val ((l.drop (p + 1)).take i) = v at *
    by_cases hv : 9223372036854775808 ≤ v
    · rw [if_pos (by omega), if_pos hv]
    · rw [if_neg (by omega), if_neg hv, w64 (a := (p : Int) + 1) (by omega), w64 (a := (p : Int) + 1 + i) (by omega), w64 (a := v) (by omega), w64 (a := -1 - v) (by omega)]
      cases b <;> rfl
  | succ d ih =>
    intro k i hi hk
    obtain ⟨k, rfl⟩ : ∃ m, k = m + 1 := ⟨k - 1, by omega⟩
    simp only [plnref1_Get.l0]
    have ha := acc_small l hb p i (by omega)
    have hr := rd_byte hb ((p : Int) + 1 + i) (by omega) (by omega)
    rw [if_pos (by omega), w64 (a := (p : Int) + 1) (by omega), w64 (a := (p : Int) + 1 + i) (by omega), if_pos (by omega), if_pos (by omega), w64 (a := (i : Int) + 1) (by omega)]
    rw [or_byte _ _ ha.1 ha.2 hr.1 hr.2, ← acc_step l p i (by omega)]
    exact ih k (i + 1) (by omega) (by omega)
theorem get_is (l : List Int) (hb : Bytes l) (hl : l.length ≤ 140737488355000) (a : Int) (k : Nat) (hk : 30 ≤ k) : wire_Get.f k l a = some (get l a) := by
  obtain ⟨k, rfl⟩ : ∃ m, k = m + 1 + 1 + 1 := ⟨k - 3, by omega⟩
  unfold wire_Get.f get
  by_cases h0 : a < 0
  · rw [if_pos h0, if_pos (.inl h0)]
    simp [wire_Get.j0]
  rw [if_neg h0]
  by_cases h1 : (l.length : Int) < a
  · rw [if_pos (.inr h1), decide_eq_true h1]
    simp [wire_Get.j0]
  rw [decide_eq_false h1, if_neg (by omega)]
  simp only [wire_Get.j0]
  rw [if_neg (by simp)]
  by_cases h2 : a = (l.length : Int)
  · rw [if_pos h2, if_pos h2]
  rw [if_neg h2, if_neg h2, if_pos (by omega), if_pos (by omega)]
  have hr := rd_byte hb a (by omega) (by omega)
  rw [w64 (a := rd l a) (by omega)]
  have hK0 : 0 ≤ getK (rd l a) ∧ getK (rd l a) < 256 := by unfold getK; split <;> omega
  have e1 : (if rd l a ≥ 16 then wire_Get.j1 (k + 1 + 1) l a (wrap64 (rd l a - 16)) (decide (rd l a ≥ 16)) else wire_Get.j1 (k + 1 + 1) l a (rd l a) (decide (rd l a ≥ 16))) = wire_Get.j1 (k + 1 + 1) l a (getK (rd l a)) (decide (16 ≤ rd l a)) := by
    unfold getK
    by_cases h : 16 ≤ rd l a
    · rw [if_pos h, if_pos h, w64 (by omega)]
    · rw [if_neg h, if_neg h]
  rw [e1]
  simp only [wire_Get.j1]
  rw [w64 (a := (l.length : Int) - a) (by omega), w64 (a := (l.length : Int) - a - 1) (by omega), w64 (a := a + 1) (by omega)]
  generalize hkk : getK (rd l a) = kk at *
  generalize hbb : (decide (16 ≤ rd l a)) = bb at *
  by_cases h3 : 8 < kk
  · rw [if_pos h3, if_pos (.inl h3)]
    simp [wire_Get.j2]
  rw [if_neg h3]
  by_cases h4 : (l.length : Int) - a - 1 < kk
  · rw [if_pos h4, if_pos (.inr (.inl h4))]
    simp [wire_Get.j2]
  rw [if_neg h4]
  obtain ⟨m, rfl⟩ := Int.eq_ofNat_of_zero_le hK0.1
  obtain ⟨p, rfl⟩ := Int.eq_ofNat_of_zero_le (show 0 ≤ a by omega)
  have tl : ∀ b : Bool, wire_Get.j2 (k + 1) l p m b false = some (fin l p m b) := by
    intro b
    simp only [wire_Get.j2]
    rw [if_neg (by simp)]
    have g1 := get_loop l hb hl p m (by omega) (by omega) b m k 0 (by omega) (by omega)
    simp only [List.take_zero, val_nil] at g1
    exact g1
  have hfin : (if 9223372036854775808 ≤ val ((l.drop ((p : Int) + 1).toNat).take ((m : Int)).toNat) then ((0 : Int), (0 : Int), (1 : Int))
      else if 16 ≤ rd l p then (-1 - val ((l.drop ((p : Int) + 1).toNat).take ((m : Int)).toNat), (p : Int) + 1 + m, 0)
      else (val ((l.drop ((p : Int) + 1).toNat).take ((m : Int)).toNat), (p : Int) + 1 + m, 0)) = fin l p m bb := by
    unfold fin
    rw [show ((p : Int) + 1).toNat = p + 1 by omega, Int.toNat_natCast]
    by_cases h : 16 ≤ rd l p
    · rw [decide_eq_true h] at hbb; subst hbb; simp [h]
    · rw [decide_eq_false h] at hbb; subst hbb; simp [h]
  by_cases h5 : (0 : Int) < m
  · rw [if_pos h5, if_pos (by omega), if_pos (by omega)]
    by_cases h6 : rd l ((p : Int) + 1) = 0
    · rw [if_pos (.inr (.inr ⟨h5, h6⟩)), h6]
      simp [wire_Get.j2]
    · rw [if_neg (by omega), hfin, show (rd l ((p : Int) + 1) == 0) = false from beq_eq_false_iff_ne.2 h6]
      exact tl bb
  · rw [if_neg h5, if_neg (by omega), hfin]
    exact tl bb
theorem ref_get_is (l : List Int) (hb : Bytes l) (hl : l.length ≤ 140737488355000) (a : Int) (k : Nat) (hk : 30 ≤ k) : plnref1_Get.f k l a = some (get l a) := by
  obtain ⟨k, rfl⟩ : ∃ m, k = m + 1 + 1 + 1 := ⟨k - 3, by omega⟩
  unfold plnref1_Get.f get
  by_cases h0 : a < 0
  · rw [if_pos h0, if_pos (.inl h0)]
    simp [plnref1_Get.j0]
  rw [if_neg h0]
  by_cases h1 : (l.length : Int) < a
  · rw [if_pos (.inr h1), decide_eq_true h1]
    simp [plnref1_Get.j0]
  rw [decide_eq_false h1, if_neg (by omega)]
  simp only [plnref1_Get.j0]
  rw [if_neg (by simp)]
  by_cases h2 : a = (l.length : Int)
  · rw [if_pos h2, if_pos h2]
  rw [if_neg h2, if_neg h2, if_pos (by omega), if_pos (by omega)]
  have hr := rd_byte hb a (by omega) (by omega)
  rw [w64 (a := rd l a) (by omega)]
  have hK0 : 0 ≤ getK (rd l a) ∧ getK (rd l a) < 256 := by unfold getK; split <;> omega
  have e1 : (if rd l a ≥ 16 then plnref1_Get.j1 (k + 1 + 1) l a (wrap64 (rd l a - 16)) true else plnref1_Get.j1 (k + 1 + 1) l a (rd l a) false) = plnref1_Get.j1 (k + 1 + 1) l a (getK (rd l a)) (decide (16 ≤ rd l a)) := by
    unfold getK
    by_cases h : 16 ≤ rd l a
    · rw [if_pos h, if_pos h, w64 (by omega)]; simp [h]
    · rw [if_neg h, if_neg h]; simp [h]
  rw [e1]
  simp only [plnref1_Get.j1]
  rw [w64 (a := (l.length : Int) - a) (by omega), w64 (a := (l.length : Int) - a - 1) (by omega), w64 (a := a + 1) (by omega)]
  generalize hkk : getK (rd l a) = kk at *
  generalize hbb : (decide (16 ≤ rd l a)) = bb at *
  by_cases h3 : 8 < kk
  · rw [if_pos h3, if_pos (.inl h3)]
    simp [plnref1_Get.j2]
  rw [if_neg h3]
  by_cases h4 : (l.length : Int) - a - 1 < kk
  · rw [if_pos h4, if_pos (.inr (.inl h4))]
    simp [plnref1_Get.j2]
  rw [if_neg h4]
  obtain ⟨m, rfl⟩ := Int.eq_ofNat_of_zero_le hK0.1
  obtain ⟨p, rfl⟩ := Int.eq_ofNat_of_zero_le (show 0 ≤ a by omega)
  have tl : ∀ b : Bool, plnref1_Get.j2 (k + 1) l p m b false = some (fin l p m b) := by
    intro b
    simp only [plnref1_Get.j2]
    rw [if_neg (by simp)]
    have g1 := ref_get_loop l hb hl p m (by omega) (by omega) b m k 0 (by omega) (by omega)
    simp only [List.take_zero, val_nil] at g1
    exact g1
  have hfin : (if 9223372036854775808 ≤ val ((l.drop ((p : Int) + 1).toNat).take ((m : Int)).toNat) then ((0 : Int), (0 : Int), (1 : Int))
      else if 16 ≤ rd l p then (-1 - val ((l.drop ((p : Int) + 1).toNat).take ((m : Int)).toNat), (p : Int) + 1 + m, 0)
      else (val ((l.drop ((p : Int) + 1).toNat).take ((m : Int)).toNat), (p : Int) + 1 + m, 0)) = fin l p m bb := by
    unfold fin
    rw [show ((p : Int) + 1).toNat = p + 1 by omega, Int.toNat_natCast]
    by_cases h : 16 ≤ rd l p
    · rw [decide_eq_true h] at hbb; subst hbb; simp [h]
    · rw [decide_eq_false h] at hbb; subst hbb; simp [h]
  by_cases h5 : (0 : Int) < m
  · rw [if_pos h5, if_pos (by omega), if_pos (by omega)]
    by_cases h6 : rd l ((p : Int) + 1) = 0
    · rw [if_pos (.inr (.inr ⟨h5, h6⟩)), h6]
      simp [plnref1_Get.j2]
    · rw [if_neg (by omega), hfin, show (rd l ((p : Int) + 1) == 0) = false from beq_eq_false_iff_ne.2 h6]
      exact tl bb
  · rw [if_neg h5, if_neg (by omega), hfin]
    exact tl bb

theorem enc_parts (n : Int) (hn : R64 n) : ∃ (u : Nat) (s : Int), (s = 0 ∨ s = 16) ∧ u < 9223372036854775808 ∧ (digs u).length ≤ 8 ∧ enc n = (s + (digs u).length) :: digs u ∧ n = if s = 16 then -1 - (u : Int) else (u : Int) := by
  obtain ⟨h1, h2⟩ := hn
  unfold enc
  by_cases h : n < 0
  · refine ⟨(-1 - n).toNat, 16, .inr rfl, by omega, digs_len_le 8 _ (by omega), ?_, ?_⟩
    · rw [if_pos h]; simp
    · rw [if_pos rfl]; omega
  · refine ⟨n.toNat, 0, .inl rfl, by omega, digs_len_le 8 _ (by omega), ?_, ?_⟩
    · rw [if_neg h]; simp
    · rw [if_neg (by decide)]; omega
theorem enc_bytes (n : Int) (hn : R64 n) : Bytes (enc n) := by
  obtain ⟨u, s, hs, hu, hl, e, _⟩ := enc_parts n hn
  rw [e]
  intro x hx
  rcases List.mem_cons.1 hx with rfl | hx
  · omega
  · exact digs_byte u x hx
theorem enc_len (n : Int) (hn : R64 n) : 1 ≤ (enc n).length ∧ (enc n).length ≤ 9 := by
  obtain ⟨u, s, hs, hu, hl, e, _⟩ := enc_parts n hn
  rw [e]; simp; omega
theorem rd_mid (p q : List Int) (x : Int) : rd (p ++ x :: q) p.length = x := by
  unfold rd; simp
/-- What is put is got, whatever is ahead and behind. -/
theorem get_enc (p q : List Int) (n : Int) (hn : R64 n) : get (p ++ enc n ++ q) p.length = (n, (p.length : Int) + (enc n).length, 0) := by
  obtain ⟨u, s, hs, hu, hl, e, hnu⟩ := enc_parts n hn
  have hK : getK (s + (digs u).length) = (digs u).length := by unfold getK; rcases hs with rfl | rfl <;> split <;> omega
  have hr : rd (p ++ enc n ++ q) p.length = s + (digs u).length := by rw [e, List.append_assoc]; exact rd_mid _ _ _
  have hlen : (p ++ enc n ++ q).length = p.length + (1 + (digs u).length) + q.length := by rw [e]; simp; omega
  have hdrop : ((p ++ enc n ++ q).drop ((p.length : Int) + 1).toNat).take (digs u).length = digs u := by
    rw [show ((p.length : Int) + 1).toNat = p.length + 1 by omega, e]
    rw [List.append_assoc, ← List.drop_drop, List.drop_left]
    simp
  unfold get
  rw [if_neg (by omega), if_neg (by omega), hr, hK]
  have hh : ¬ (8 < ((digs u).length : Int) ∨ ((p ++ enc n ++ q).length : Int) - p.length - 1 < (digs u).length ∨ (0 < ((digs u).length : Int) ∧ rd (p ++ enc n ++ q) ((p.length : Int) + 1) = 0)) := by
    intro h
    rcases h with h | h | ⟨h, h'⟩
    · omega
    · omega
    · have hu0 : u ≠ 0 := fun h0 => by subst h0; rw [digs_zero] at h; simp at h
      obtain ⟨d, r, hd, hd0⟩ := digs_head hu0
      have : rd (p ++ enc n ++ q) ((p.length : Int) + 1) = d := by
        rw [e, hd]
        have := rd_mid (p ++ [s + ((d :: r).length : Int)]) (r ++ q) d
        rw [List.length_append, List.length_singleton] at this
        rw [show ((p.length : Int) + 1) = ((p.length + 1 : Nat) : Int) by omega]
        simpa using this
      omega
  rw [if_neg hh, Int.toNat_natCast, hdrop, val_digs, if_neg (by omega)]
  have elen : ((enc n).length : Int) = 1 + (digs u).length := by rw [e]; simp; omega
  rcases hs with rfl | rfl
  · rw [if_neg (by omega)]
    rw [if_neg (by decide)] at hnu
    rw [hnu, ← hnu, elen]; ext <;> simp; omega
  · rw [if_pos (by omega)]
    rw [if_pos rfl] at hnu
    rw [← hnu, elen]; ext <;> simp; omega
/-- What is got has one form. -/
theorem get_ok (l : List Int) (hb : Bytes l) (a n x : Int) (h : get l a = (n, x, 0)) : 0 ≤ a ∧ a < x ∧ x ≤ l.length ∧ R64 n ∧ enc n = (l.take x.toNat).drop a.toNat := by
  unfold get at h
  by_cases h0 : a < 0 ∨ (l.length : Int) < a
  · rw [if_pos h0] at h; simp at h
  rw [if_neg h0] at h
  by_cases h1 : a = l.length
  · rw [if_pos h1] at h; simp at h
  rw [if_neg h1] at h
  by_cases h2 : 8 < getK (rd l a) ∨ (l.length : Int) - a - 1 < getK (rd l a) ∨ (0 < getK (rd l a) ∧ rd l (a + 1) = 0)
  · rw [if_pos h2] at h; simp at h
  rw [if_neg h2] at h
  have hr := rd_byte hb a (by omega) (by omega)
  have hK0 : 0 ≤ getK (rd l a) := by unfold getK; split <;> omega
  obtain ⟨m, hm⟩ := Int.eq_ofNat_of_zero_le hK0
  obtain ⟨p, rfl⟩ := Int.eq_ofNat_of_zero_le (show 0 ≤ a by omega)
  rw [hm] at h h2
  rw [Int.toNat_natCast, show ((p : Int) + 1).toNat = p + 1 by omega] at h
  have hB : Bytes ((l.drop (p + 1)).take m) := (hb.drop _).take _
  have hlenT : ((l.drop (p + 1)).take m).length = m := by simp; omega
  have hhead : ∀ d r, (l.drop (p + 1)).take m = d :: r → d ≠ 0 := by
    intro d r hd hd0
    have hm0 : 0 < m := by rw [← hlenT, hd]; simp
    apply h2
    refine .inr (.inr ⟨by omega, ?_⟩)
    have h3 := rd_drop l (p + 1) 0
    have h4 : rd (l.drop (p + 1)) ((0 : Nat) : Int) = d := by
      have : (l.drop (p + 1)) = d :: ((l.drop (p + 1)).tail) := by
        cases hc : l.drop (p + 1) with
        | nil => rw [hc] at hd; simp at hd
        | cons y ys => rw [hc] at hd; cases m with
          | zero => omega
          | succ m => simp at hd; simp [hd.1]
      rw [this]; rfl
    rw [h4] at h3
    rw [show ((p + 1 : Nat) : Int) + ((0 : Nat) : Int) = (p : Int) + 1 by omega] at h3
    rw [← h3]; exact hd0
  have hdv := digs_val _ hB hhead
  have hvb := val_bounds _ hB
  generalize hv : val ((l.drop (p + 1)).take m) = v at *
  by_cases h5 : 9223372036854775808 ≤ v
  · rw [if_pos h5] at h; simp at h
  rw [if_neg h5] at h
  have hcut : ∀ y : Int, (y = (p : Int) + 1 + m) → (l.take y.toNat).drop ((p : Int)).toNat = rd l p :: (l.drop (p + 1)).take m := by
    intro y hy
    subst hy
    rw [Int.toNat_natCast, show ((p : Int) + 1 + m).toNat = p + (m + 1) by omega, List.drop_take, show p + (m + 1) - p = m + 1 by omega]
    have : l.drop p = rd l p :: l.drop (p + 1) := by
      rw [List.drop_eq_getElem_cons (by omega)]
      unfold rd
      rw [List.getD_eq_getElem?_getD, Int.toNat_natCast, List.getElem?_eq_getElem (by omega)]; rfl
    rw [this]; rfl
  by_cases h6 : 16 ≤ rd l p
  · rw [if_pos h6] at h
    simp only [Prod.mk.injEq] at h
    obtain ⟨rfl, rfl, _⟩ := h
    have hk : (m : Int) = rd l p - 16 := by rw [← hm]; unfold getK; rw [if_pos h6]
    refine ⟨by omega, by omega, by omega, ⟨by omega, by omega⟩, ?_⟩
    rw [hcut _ rfl, enc, if_pos (by omega), show (-1 - (-1 - v)) = v by omega, hdv, hlenT]
    congr 1; omega
  · rw [if_neg h6] at h
    simp only [Prod.mk.injEq] at h
    obtain ⟨rfl, rfl, _⟩ := h
    have hk : (m : Int) = rd l p := by rw [← hm]; unfold getK; rw [if_neg h6]
    refine ⟨by omega, by omega, by omega, ⟨by omega, by omega⟩, ?_⟩
    rw [hcut _ rfl, enc, if_neg (by omega), hdv, hlenT]
    congr 1
theorem enc_inj {n m : Int} (hn : R64 n) (hm : R64 m) (h : enc n = enc m) : n = m := by
  have h1 := get_enc [] [] n hn
  have h2 := get_enc [] [] m hm
  rw [h] at h1
  rw [h1] at h2
  exact (Prod.mk.inj h2).1
/-- How a get may end. -/
theorem get_ends (l : List Int) (a : Int) : ((get l a).2.2 = 0) ∨ (get l a = (0, 0, 1)) ∨ (get l a = (0, 0, 8)) := by
  unfold get
  repeat' (first | exact .inl rfl | exact .inr (.inl rfl) | exact .inr (.inr rfl) | split)
end Go.Proofs.Ytnibdgjlbhdmfaa.WireAid
