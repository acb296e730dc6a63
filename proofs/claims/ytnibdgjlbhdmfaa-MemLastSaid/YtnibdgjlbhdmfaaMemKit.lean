/- What the methods of the program's and of the document's Mem answer: contracts on their reading methods. -/
import Derived.Test.YtnibdgjlbhdmfaaPMemPlaysx0
namespace Go.Proofs.Ytnibdgjlbhdmfaa.MemKit
open Go.RowKit Go.Proofs.Ytnibdgjlbhdmfaa.PMemPlays Go.Proofs.YtnibdgjlbhdmfaaW.PrintWords Go.Proofs.YtnibdgjlbhdmfaaW.PrintLast Go.Proofs.YtnibdgjlbhdmfaaW.PrintMore
set_option linter.unusedVariables false
set_option linter.unusedSimpArgs false
/-- How many cells an object has. -/
def siz (L : List (List Int)) (obj : Int) : Int := if 0 ≤ obj ∧ obj < L.length then ((rd_L1 L obj).length : Int) else 0
/-- Is there such a cell? -/
def isC (L : List (List Int)) (obj off : Int) : Bool := decide (0 ≤ off ∧ off < siz L obj)
def cel (L : List (List Int)) (obj off : Int) : Int := if isC L obj off = true then rd (rd_L1 L obj) off else 0
/-- The block g holds a slice that reads as these rows. -/
def Rd (W : World) (g : Nat) (L : List (List Int)) : Prop := ∃ A c, W.cell? ⟨g, 0, none⟩ = some (.slice A L.length c) ∧ Kd.C (Kd.slice 2 (Kd.int .i64)) W A L.length L
theorem Rd.drewN {W : World} {g : Nat} {L : List (List Int)} (h : Rd W g L) (n : Nat) : Rd (W.drewN n) g L := by
  obtain ⟨A, c, h1, h2⟩ := h
  exact ⟨A, c, h1, Kd.C_drewN h2 n⟩
theorem siz_range (L : List (List Int)) (obj : Int) (h : ∀ x ∈ L, x.length ≤ 1000000) : 0 ≤ siz L obj ∧ siz L obj ≤ 1000000 := by
  unfold siz rd_L1
  split
  · rename_i hh
    have hi : obj.toNat < L.length := by omega
    rw [List.getD_eq_getElem?_getD, List.getElem?_eq_getElem hi]
    have := h _ (List.getElem_mem hi)
    simp; omega
  · omega

set_option maxHeartbeats 1000000 in
theorem len_ (W : World) (g : Nat) (L : List (List Int)) (h : Rd W g L) :
    Calls Try.prog 26 #[.pointer (some ⟨g, 0, none⟩)] W fun e w' => e = .returned (.int .i64 (L.length : Int)) ∧ Drawn0 W w' := by
  obtain ⟨A, c, hg, hC⟩ := h
  clear hC
  go_enter Try.func26, Try.ntmps26
  go_wp2_with fail
  repeat (go_quiet (fail); try go_wp2)
  go_ret
  exact ⟨by first | rfl | (simp; done) | (simp [*]; done), by repeat (first | exact Drawn0.refl _ | apply Drawn0.step)⟩

set_option maxHeartbeats 1000000 in
theorem size (W : World) (g : Nat) (L : List (List Int)) (obj : Int) (h : Rd W g L) (hl : L.length ≤ 1000000) :
    Calls Try.prog 27 #[.pointer (some ⟨g, 0, none⟩), .int .i64 obj] W fun e w' => e = .returned (.int .i64 (siz L obj)) ∧ Drawn0 W w' := by
  obtain ⟨A, c, hg, hC⟩ := h
  by_cases h0 : obj < 0
  · have e : siz L obj = 0 := by unfold siz; rw [if_neg (by omega)]
    rw [e]
    have h0b : decide (obj < 0) = true := decide_eq_true h0
    clear hC e h0
    go_enter Try.func27, Try.ntmps27
    go_wp2_with fail
    repeat (go_quiet (fail); try go_wp2)
    go_ret
    exact ⟨by first | rfl | (simp; done) | (simp [*]; done), by repeat (first | exact Drawn0.refl _ | apply Drawn0.step)⟩
  · by_cases h1 : obj < L.length
    · have e : siz L obj = ((rd_L1 L obj).length : Int) := by unfold siz; rw [if_pos (by omega)]
      rw [e]
      obtain ⟨ad, A0, c0, rfl, hc, _, _⟩ := at_L1 hC obj (by omega) h1
      have h0b : decide (obj < 0) = false := decide_eq_false h0
      have h1b : decide ((L.length : Int) ≤ obj) = false := decide_eq_false (by omega)
      have p0 : (0 ≤ obj) = True := eq_true (by omega)
      have p1 : (obj < (L.length : Int)) = True := eq_true h1
      clear hC e h0 h1
      go_enter Try.func27, Try.ntmps27
      go_wp2_with fail
      repeat (go_quiet (fail); try go_wp2)
      go_ret
      exact ⟨by first | rfl | (simp; done) | (simp [*]; done), by repeat (first | exact Drawn0.refl _ | apply Drawn0.step)⟩
    · have e : siz L obj = 0 := by unfold siz; rw [if_neg (by omega)]
      rw [e]
      have h0b : decide (obj < 0) = false := decide_eq_false h0
      have h1b : decide ((L.length : Int) ≤ obj) = true := decide_eq_true (by omega)
      clear hC e h0 h1
      go_enter Try.func27, Try.ntmps27
      go_wp2_with fail
      repeat (go_quiet (fail); try go_wp2)
      go_ret
      exact ⟨by first | rfl | (simp; done) | (simp [*]; done), by repeat (first | exact Drawn0.refl _ | apply Drawn0.step)⟩

set_option maxHeartbeats 1000000 in
theorem rsize (W : World) (g : Nat) (L : List (List Int)) (obj : Int) (h : Rd W g L) (hl : L.length ≤ 1000000) :
    Calls Try.prog 28 #[.pointer (some ⟨g, 0, none⟩), .int .i64 obj] W fun e w' => e = .returned (.int .i64 (siz L obj)) ∧ Drawn0 W w' := by
  obtain ⟨A, c, hg, hC⟩ := h
  by_cases h0 : obj < 0
  · have e : siz L obj = 0 := by unfold siz; rw [if_neg (by omega)]
    rw [e]
    have h0b : decide (obj < 0) = true := decide_eq_true h0
    clear hC e h0
    go_enter Try.func28, Try.ntmps28
    go_wp2_with fail
    repeat (go_quiet (fail); try go_wp2)
    go_ret
    exact ⟨by first | rfl | (simp; done) | (simp [*]; done), by repeat (first | exact Drawn0.refl _ | apply Drawn0.step)⟩
  · by_cases h1 : obj < L.length
    · have e : siz L obj = ((rd_L1 L obj).length : Int) := by unfold siz; rw [if_pos (by omega)]
      rw [e]
      obtain ⟨ad, A0, c0, rfl, hc, _, _⟩ := at_L1 hC obj (by omega) h1
      have h0b : decide (obj < 0) = false := decide_eq_false h0
      have h1b : decide ((L.length : Int) ≤ obj) = false := decide_eq_false (by omega)
      have p0 : (0 ≤ obj) = True := eq_true (by omega)
      have p1 : (obj < (L.length : Int)) = True := eq_true h1
      clear hC e h0 h1
      go_enter Try.func28, Try.ntmps28
      go_wp2_with fail
      repeat (go_quiet (fail); try go_wp2)
      go_ret
      exact ⟨by first | rfl | (simp; done) | (simp [*]; done), by repeat (first | exact Drawn0.refl _ | apply Drawn0.step)⟩
    · have e : siz L obj = 0 := by unfold siz; rw [if_neg (by omega)]
      rw [e]
      have h0b : decide (obj < 0) = false := decide_eq_false h0
      have h1b : decide ((L.length : Int) ≤ obj) = true := decide_eq_true (by omega)
      clear hC e h0 h1
      go_enter Try.func28, Try.ntmps28
      go_wp2_with fail
      repeat (go_quiet (fail); try go_wp2)
      go_ret
      exact ⟨by first | rfl | (simp; done) | (simp [*]; done), by repeat (first | exact Drawn0.refl _ | apply Drawn0.step)⟩

set_option maxHeartbeats 1000000 in
theorem there (W : World) (g : Nat) (L : List (List Int)) (obj off : Int) (h : Rd W g L) (hl : L.length ≤ 1000000) :
    Calls Try.prog 48 #[.pointer (some ⟨g, 0, none⟩), .int .i64 obj, .int .i64 off] W fun e w' => e = .returned (.bool (isC L obj off)) ∧ Drawn0 W w' := by
  have HS := fun w (h : Rd w g L) => Aside0.mk (size w g L obj h hl)
  by_cases h0 : 0 ≤ off
  · have e : isC L obj off = decide (off < siz L obj) := by unfold isC; simp [h0]
    rw [e]
    have h0b : decide (0 ≤ off) = true := decide_eq_true h0
    clear e h0
    go_enter Try.func48, Try.ntmps48
    go_wp2_with fail
    refine (size W g L obj h hl).mono ?_
    rintro e w' ⟨rfl, ⟨nd, rfl⟩⟩
    go_wp2_with fail
    go_ret
    exact ⟨by first | rfl | (simp; done) | (simp [*]; done), by repeat (first | exact Drawn0.refl _ | apply Drawn0.step)⟩
  · have e : isC L obj off = false := by unfold isC; simp [h0]
    rw [e]
    have h0b : decide (0 ≤ off) = false := decide_eq_false h0
    clear e h0
    go_enter Try.func48, Try.ntmps48
    go_wp2_with fail
    go_ret
    exact ⟨by first | rfl | (simp; done) | (simp [*]; done), by repeat (first | exact Drawn0.refl _ | apply Drawn0.step)⟩

set_option maxHeartbeats 1000000 in
theorem load (W : World) (g : Nat) (L : List (List Int)) (obj off : Int) (h : Rd W g L) (hl : L.length ≤ 1000000) (hx : ∀ x ∈ L, x.length ≤ 1000000) :
    Calls Try.prog 22 #[.pointer (some ⟨g, 0, none⟩), .int .i64 obj, .int .i64 off] W fun e w' => e = .returned (.tuple #[.int .i64 (cel L obj off), .bool (isC L obj off)]) ∧ Drawn0 W w' := by
  have hsr := siz_range L obj hx
  by_cases hc : isC L obj off = true
  · have e1 : cel L obj off = rd (rd_L1 L obj) off := by unfold cel; rw [if_pos hc]
    have hh : 0 ≤ off ∧ off < siz L obj := by unfold isC at hc; exact of_decide_eq_true hc
    have ho : 0 ≤ obj ∧ obj < L.length := by
      have h2 := hh.2
      unfold siz at h2
      split at h2
      · assumption
      · omega
    have hs : siz L obj = ((rd_L1 L obj).length : Int) := by unfold siz; rw [if_pos ho]
    rw [e1, hc]
    obtain ⟨A, c, hg, hC⟩ := id h
    obtain ⟨ad, A0, c0, rfl, hcell, _, hrow⟩ := at_L1 hC obj ho.1 ho.2
    obtain ⟨ad2, rfl, hcell2⟩ := Kd.at_int hrow off hh.1 (by omega)
    have p0 : (0 ≤ obj) = True := eq_true ho.1
    have p1 : (obj < (L.length : Int)) = True := eq_true ho.2
    have p2 : (0 ≤ off) = True := eq_true hh.1
    have p3 : (off < ((rd_L1 L obj).length : Int)) = True := eq_true (by omega)
    skip
    have HC := Aside0.mk hc
    clear hC e1 hh ho hs hc hrow hsr hx

    go_enter Try.func22, Try.ntmps22
    go_wp2_with fail
    refine (there W g L obj off h hl).mono ?_; rw [HC.out]; rintro e w' ⟨rfl, ⟨nd, rfl⟩⟩
    go_wp2_with fail
    repeat (go_quiet (fail); try go_wp2)
    go_ret2
    exact ⟨by first | rfl | (simp; done) | (simp [*]; done), by repeat (first | exact Drawn0.refl _ | apply Drawn0.step)⟩

  · have hc' : isC L obj off = false := by simpa using hc
    have e1 : cel L obj off = 0 := by unfold cel; rw [if_neg hc]
    rw [e1, hc']
    skip
    have HC := Aside0.mk hc'
    clear hc e1 hc' hsr hx

    go_enter Try.func22, Try.ntmps22
    go_wp2_with fail
    refine (there W g L obj off h hl).mono ?_; rw [HC.out]; rintro e w' ⟨rfl, ⟨nd, rfl⟩⟩
    go_wp2_with fail
    repeat (go_quiet (fail); try go_wp2)
    go_ret2
    exact ⟨by first | rfl | (simp; done) | (simp [*]; done), by repeat (first | exact Drawn0.refl _ | apply Drawn0.step)⟩


set_option maxHeartbeats 1000000 in
theorem rload (W : World) (g : Nat) (L : List (List Int)) (obj off : Int) (h : Rd W g L) (hl : L.length ≤ 1000000) (hx : ∀ x ∈ L, x.length ≤ 1000000) :
    Calls Try.prog 23 #[.pointer (some ⟨g, 0, none⟩), .int .i64 obj, .int .i64 off] W fun e w' => e = .returned (.tuple #[.int .i64 (cel L obj off), .bool (isC L obj off)]) ∧ Drawn0 W w' := by
  have hsr := siz_range L obj hx
  by_cases hc : isC L obj off = true
  · have e1 : cel L obj off = rd (rd_L1 L obj) off := by unfold cel; rw [if_pos hc]
    have hh : 0 ≤ off ∧ off < siz L obj := by unfold isC at hc; exact of_decide_eq_true hc
    have ho : 0 ≤ obj ∧ obj < L.length := by
      have h2 := hh.2
      unfold siz at h2
      split at h2
      · assumption
      · omega
    have hs : siz L obj = ((rd_L1 L obj).length : Int) := by unfold siz; rw [if_pos ho]
    rw [e1, hc]
    obtain ⟨A, c, hg, hC⟩ := id h
    obtain ⟨ad, A0, c0, rfl, hcell, _, hrow⟩ := at_L1 hC obj ho.1 ho.2
    obtain ⟨ad2, rfl, hcell2⟩ := Kd.at_int hrow off hh.1 (by omega)
    have p0 : (0 ≤ obj) = True := eq_true ho.1
    have p1 : (obj < (L.length : Int)) = True := eq_true ho.2
    have p2 : (0 ≤ off) = True := eq_true hh.1
    have p3 : (off < ((rd_L1 L obj).length : Int)) = True := eq_true (by omega)
    have q1 : decide (off < 0) = false := decide_eq_false (by omega)
    have q2 : decide (siz L obj ≤ off) = false := decide_eq_false (by omega)
    have HC := Aside0.mk hc
    clear hC e1 hh ho hs hc hrow hsr hx

    go_enter Try.func23, Try.ntmps23
    go_wp2_with fail
    refine (rsize W g L obj h hl).mono ?_; rintro e w' ⟨rfl, ⟨nd, rfl⟩⟩
    go_wp2_with fail
    repeat (go_quiet (fail); try go_wp2)
    go_ret2
    exact ⟨by first | rfl | (simp; done) | (simp [*]; done), by repeat (first | exact Drawn0.refl _ | apply Drawn0.step)⟩

  · have hc' : isC L obj off = false := by simpa using hc
    have e1 : cel L obj off = 0 := by unfold cel; rw [if_neg hc]
    rw [e1, hc']

    by_cases hn : off < 0
    · have q1 : decide (off < 0) = true := decide_eq_true hn
      clear hc e1 hc' hsr hx hn
      go_enter Try.func23, Try.ntmps23
      go_wp2_with fail
      repeat (go_quiet (fail); try go_wp2)
      go_ret2
      exact ⟨by first | rfl | (simp; done) | (simp [*]; done), by repeat (first | exact Drawn0.refl _ | apply Drawn0.step)⟩
    · have q1 : decide (off < 0) = false := decide_eq_false hn
      have q2 : decide (siz L obj ≤ off) = true := decide_eq_true (by unfold isC at hc; simp at hc; omega)
      clear hc e1 hc' hsr hx hn
      go_enter Try.func23, Try.ntmps23
      go_wp2_with fail
      refine (rsize W g L obj h hl).mono ?_; rintro e w' ⟨rfl, ⟨nd, rfl⟩⟩
      go_wp2_with fail
      repeat (go_quiet (fail); try go_wp2)
      go_ret2
      exact ⟨by first | rfl | (simp; done) | (simp [*]; done), by repeat (first | exact Drawn0.refl _ | apply Drawn0.step)⟩

/-- The object of a Mem: its block g holds a row of rows of its own, no two of which lead to one block. -/
def MemO (T : Nat) (W : World) (base : Nat) (ok : Nat → Prop) (g : Nat) (L : List (List Int)) : Prop :=
  (∀ k, ok k → k ≠ g) ∧ ∃ v, W.heap[g]? = some (.cells #[v] T (0, 0)) ∧ Kd.S (Kd.slice 2 (Kd.int .i64)) 30 W base ok v L
theorem MemO.reads {T : Nat} {W : World} {base : Nat} {ok : Nat → Prop} {g : Nat} {L : List (List Int)} (h : MemO T W base ok g L) : Rd W g L := by
  obtain ⟨_, v, hb, hS⟩ := h
  obtain ⟨A, c, rfl, _, hC⟩ := Kd.R_reads (Kd.S_R hS)
  exact ⟨A, c, by rw [blk_cell hb]; rfl, hC⟩
/-- What may have changed: blocks of P alone, and there may be new ones. -/
structure Tch (P : Nat → Prop) (W W' : World) : Prop where
  os : W'.os = W.os
  tape : W'.tape = W.tape
  output : W'.output = W.output
  size : W.heap.size ≤ W'.heap.size
  block : ∀ k, k < W.heap.size → ¬ P k → W'.heap[k]? = W.heap[k]?
theorem Tch.refl (P : Nat → Prop) (W : World) : Tch P W W := ⟨rfl, rfl, rfl, Nat.le_refl _, fun _ _ _ => rfl⟩
theorem Tch.trans {P : Nat → Prop} {W W1 W2 : World} (h : Tch P W W1) (k : Tch P W1 W2) : Tch P W W2 :=
  ⟨k.os.trans h.os, k.tape.trans h.tape, k.output.trans h.output, Nat.le_trans h.size k.size, fun i hi hP => (k.block i (Nat.lt_of_lt_of_le hi h.size) hP).trans (h.block i hi hP)⟩
theorem Tch.mono {P Q : Nat → Prop} {W W1 : World} (h : Tch P W W1) (hPQ : ∀ k, P k → Q k) : Tch Q W W1 :=
  ⟨h.os, h.tape, h.output, h.size, fun i hi hQ => h.block i hi (fun hp => hQ (hPQ i hp))⟩
theorem Tch.drawn {P : Nat → Prop} {W W1 : World} (h : Drawn0 W W1) : Tch P W W1 := by
  obtain ⟨n, rfl⟩ := h
  exact ⟨rfl, rfl, rfl, Nat.le_refl _, fun _ _ _ => rfl⟩
theorem Tch.below {P : Nat → Prop} {W W1 : World} (h : Below W.heap.size W W1) : Tch P W W1 := ⟨h.os, h.tape, h.output, h.size, fun k hk _ => h.block k hk⟩
theorem Tch.set {P : Nat → Prop} (W : World) (p : Addr) (u : Value) (hp : P p.block) : Tch P W (W.setCell p u) :=
  have b := (Below.refl p.block W).setCell (Nat.le_refl _) u
  ⟨b.os, b.tape, b.output, b.size, fun k _ hk => Below.heap_setCell W p u k (fun e => hk (by rw [e]; exact hp))⟩
theorem Tch.to_below {P : Nat → Prop} {W W1 : World} {B : Nat} (h : Tch P W W1) (hB : B ≤ W.heap.size) (hP : ∀ k, P k → B ≤ k) : Below B W W1 :=
  ⟨h.os, h.tape, h.output, h.size, fun k hk => h.block k (Nat.lt_of_lt_of_le hk hB) (fun hp => by have := hP k hp; omega)⟩
theorem MemO.tch {T : Nat} {W W1 : World} {base : Nat} {ok P : Nat → Prop} {g : Nat} {L : List (List Int)} (h : MemO T W base ok g L) (hT : Tch P W W1) (h1 : ∀ k, P k → ¬ ok k) (h2 : ¬ P g) : MemO T W1 base ok g L := by
  obtain ⟨hne, v, hb, hS⟩ := h
  exact ⟨hne, v, (hT.block g (blk_lt hb) h2).trans hb, Kd.S_step hS (fun k hk hlt => hT.block k hlt (fun hp => h1 k hp hk))⟩
theorem MemO.mono {T : Nat} {W : World} {base : Nat} {ok ok' : Nat → Prop} {g : Nat} {L : List (List Int)} (h : MemO T W base ok g L) (hok : ∀ k, ok k → ok' k) (hne : ∀ k, ok' k → k ≠ g) : MemO T W base ok' g L := by
  obtain ⟨_, v, hb, hS⟩ := h
  exact ⟨hne, v, hb, Kd.S_mono hS hok⟩
/-- What a Store leaves. -/
def sto (L : List (List Int)) (obj off v : Int) : List (List Int) := if isC L obj off = true then L.set obj.toNat ((rd_L1 L obj).set off.toNat v) else L
/-- The cell that a Store writes, and what it leaves. -/
theorem MemO.store {T : Nat} {W : World} {base : Nat} {ok : Nat → Prop} {g : Nat} {L : List (List Int)} (h : MemO T W base ok g L) (obj off v : Int) (hc : isC L obj off = true) :
    ∃ A c A0 c0 b, W.cell? ⟨g, 0, none⟩ = some (.slice (some A) L.length c) ∧ W.cell? (A.add obj.toNat) = some (.slice (some A0) (rd_L1 L obj).length c0) ∧ A0 = ⟨b, 0, none⟩ ∧ W.cell? (A0.add off.toNat) = some (.int .i64 (rd (rd_L1 L obj) off)) ∧ W.frozen? (A0.add off.toNat) = false ∧
      MemO T (W.setCell (A0.add off.toNat) (.int .i64 v)) base ok g (sto L obj off v) ∧ ok b ∧ (A0.add off.toNat).block = b := by
  have hh : 0 ≤ off ∧ off < siz L obj := by unfold isC at hc; exact of_decide_eq_true hc
  have ho : 0 ≤ obj ∧ obj < L.length := by
    have h2 := hh.2
    unfold siz at h2
    split at h2
    · assumption
    · omega
  have hs : siz L obj = ((rd_L1 L obj).length : Int) := by unfold siz; rw [if_pos ho]
  obtain ⟨hne, u, hb, hS⟩ := h
  obtain ⟨A, c, rfl, _, hC⟩ := Kd.R_reads (Kd.S_R hS)
  obtain ⟨ad, A0', c0', rfl, hcell, _, _⟩ := at_L1 hC obj ho.1 ho.2
  obtain ⟨oki, cs, hcl, ⟨vi, rfl, hR⟩, hcc, hoki, hback⟩ := Kd.S_borrow hS ([] : List Int) obj ho.1 (by omega)
  have hcell2 : W.cell? (ad.add obj.toNat) = some vi := by
    have := hcc 0 vi rfl
    rwa [show (Kd.slice 2 (Kd.int .i64)).sz = 1 from rfl, Nat.mul_one, Nat.add_zero] at this
  obtain ⟨gi, cap, rfl, _, _, cells, hbi⟩ := Kd.R_form hR (show 0 < (L.getD obj.toNat []).length by have : (rd_L1 L obj).length = (L.getD obj.toNat []).length := rfl; omega)
  have hoff : 0 ≤ off ∧ off < ((L.getD obj.toNat []).length : Int) := ⟨hh.1, by have : (rd_L1 L obj).length = (L.getD obj.toNat []).length := rfl; omega⟩
  obtain ⟨hput, hgr⟩ := Kd.R_put hR off v
  have hokb : oki gi := hR.1 gi (by simp [Value.ownBlock])
  have hcells := Kd.R_reads' hR
  obtain ⟨ad2, had2, hcv⟩ := Kd.at_int hcells.2.2 off hoff.1 hoff.2
  cases had2
  have hadd : (⟨gi, 0, none⟩ : Addr).add off.toNat = ⟨gi, off.toNat, none⟩ := add_plain gi off.toNat
  refine ⟨ad, c, ⟨gi, 0, none⟩, cap, gi, by rw [blk_cell hb]; rfl, hcell2, rfl, hcv, by rw [hadd]; exact blk_frozen hbi _, ?_, (hoki gi hokb).1, by rw [hadd]⟩
  rw [hadd]
  refine ⟨hne, .slice (some ad) L.length c, ?_, ?_⟩
  · exact blk_far hb (fun e => hne gi (hoki gi hokb).1 e.symm) _
  · unfold sto
    rw [if_pos hc]
    exact hback hgr (fun k hk => by injection hk with hk; exact hk ▸ hokb) ⟨_, rfl, hput⟩

theorem MemO.drewN {T : Nat} {W : World} {base : Nat} {ok : Nat → Prop} {g : Nat} {L : List (List Int)} (h : MemO T W base ok g L) (n : Nat) : MemO T (W.drewN n) base ok g L :=
  h.tch (P := fun _ => False) (Tch.drawn ⟨⟨n, rfl⟩⟩) (fun _ hk => hk.elim) (fun hk => hk)
theorem MemO.drew {T : Nat} {W : World} {base : Nat} {ok : Nat → Prop} {g : Nat} {L : List (List Int)} (h : MemO T W base ok g L) : MemO T W.drew base ok g L := h.drewN 1
theorem Tch.drewN {P : Nat → Prop} {W W1 : World} (h : Tch P W W1) (n : Nat) : Tch P W (W1.drewN n) := h.trans (Tch.drawn ⟨⟨n, rfl⟩⟩)
theorem Tch.drew {P : Nat → Prop} {W W1 : World} (h : Tch P W W1) : Tch P W W1.drew := h.drewN 1

set_option maxHeartbeats 1000000 in
theorem store (W : World) (g : Nat) (L : List (List Int)) (obj off v : Int) (base : Nat) (ok : Nat → Prop) (h : MemO 73 W base ok g L) (hl : L.length ≤ 1000000) (hx : ∀ x ∈ L, x.length ≤ 1000000) :
    Calls Try.prog 24 #[.pointer (some ⟨g, 0, none⟩), .int .i64 obj, .int .i64 off, .int .i64 v] W fun e w' => e = .returned (.bool (isC L obj off)) ∧ MemO 73 w' base ok g (sto L obj off v) ∧ Tch ok W w' := by
  have hsr := siz_range L obj hx
  have hrd := h.reads
  by_cases hc : isC L obj off = true
  · have hh : 0 ≤ off ∧ off < siz L obj := by unfold isC at hc; exact of_decide_eq_true hc
    have ho : 0 ≤ obj ∧ obj < L.length := by
      have h2 := hh.2
      unfold siz at h2
      split at h2
      · assumption
      · omega
    have hs : siz L obj = ((rd_L1 L obj).length : Int) := by unfold siz; rw [if_pos ho]
    rw [hc]
    obtain ⟨A, c, A0, c0, b, hg, hcell, rfl, hcv, hfr, hM, hokb, hblk⟩ := h.store obj off v hc
    have hT : Tch ok W (W.setCell ((⟨b, 0, none⟩ : Addr).add off.toNat) (.int .i64 v)) := Tch.set W _ _ (by rw [hblk]; exact hokb)
    rw [add_plain] at hcv hfr hM hT
    have p0 : (0 ≤ obj) = True := eq_true ho.1
    have p1 : (obj < (L.length : Int)) = True := eq_true ho.2
    have p2 : (0 ≤ off) = True := eq_true hh.1
    have p3 : (off < ((rd_L1 L obj).length : Int)) = True := eq_true (by omega)
    skip
    have HC := Aside0.mk hc
    have HM := Aside0.mk hM
    have HT := Aside0.mk hT
    clear hh ho hs hc hsr hx h hM hT hblk hokb
    go_enter Try.func24, Try.ntmps24
    go_wp2_with fail
    refine (there W g L obj off hrd hl).mono ?_; rw [HC.out]; rintro e w' ⟨rfl, ⟨nd, rfl⟩⟩
    go_wp2_with fail
    repeat (go_quiet (fail); try go_wp2)
    go_ret
    exact ⟨by first | rfl | (simp; done) | (simp [*]; done), by repeat (first | exact HM.out | apply MemO.drewN | apply MemO.drew), by first | exact HT.out | exact HT.out.drewN nd | (repeat (first | exact HT.out | apply Tch.drewN | apply Tch.drew))⟩
  · have hc' : isC L obj off = false := by simpa using hc
    have e2 : sto L obj off v = L := by unfold sto; rw [if_neg hc]
    rw [hc', e2]
    have HC := Aside0.mk hc'
    have HM := Aside0.mk h
    clear hc hc' e2 h hsr hx
    go_enter Try.func24, Try.ntmps24
    go_wp2_with fail
    refine (there W g L obj off hrd hl).mono ?_; rw [HC.out]; rintro e w' ⟨rfl, ⟨nd, rfl⟩⟩
    go_wp2_with fail
    repeat (go_quiet (fail); try go_wp2)
    go_ret
    exact ⟨by first | rfl | (simp; done) | (simp [*]; done), by repeat (first | exact HM.out | apply MemO.drewN | apply MemO.drew), by repeat (first | exact Tch.refl _ _ | apply Tch.drewN | apply Tch.drew)⟩

set_option maxHeartbeats 1000000 in
theorem rstore (W : World) (g : Nat) (L : List (List Int)) (obj off v : Int) (base : Nat) (ok : Nat → Prop) (h : MemO 29 W base ok g L) (hl : L.length ≤ 1000000) (hx : ∀ x ∈ L, x.length ≤ 1000000) :
    Calls Try.prog 25 #[.pointer (some ⟨g, 0, none⟩), .int .i64 obj, .int .i64 off, .int .i64 v] W fun e w' => e = .returned (.bool (isC L obj off)) ∧ MemO 29 w' base ok g (sto L obj off v) ∧ Tch ok W w' := by
  have hsr := siz_range L obj hx
  have hrd := h.reads
  by_cases hc : isC L obj off = true
  · have hh : 0 ≤ off ∧ off < siz L obj := by unfold isC at hc; exact of_decide_eq_true hc
    have ho : 0 ≤ obj ∧ obj < L.length := by
      have h2 := hh.2
      unfold siz at h2
      split at h2
      · assumption
      · omega
    have hs : siz L obj = ((rd_L1 L obj).length : Int) := by unfold siz; rw [if_pos ho]
    rw [hc]
    obtain ⟨A, c, A0, c0, b, hg, hcell, rfl, hcv, hfr, hM, hokb, hblk⟩ := h.store obj off v hc
    have hT : Tch ok W (W.setCell ((⟨b, 0, none⟩ : Addr).add off.toNat) (.int .i64 v)) := Tch.set W _ _ (by rw [hblk]; exact hokb)
    rw [add_plain] at hcv hfr hM hT
    have p0 : (0 ≤ obj) = True := eq_true ho.1
    have p1 : (obj < (L.length : Int)) = True := eq_true ho.2
    have p2 : (0 ≤ off) = True := eq_true hh.1
    have p3 : (off < ((rd_L1 L obj).length : Int)) = True := eq_true (by omega)
    have q1 : decide (off < 0) = false := decide_eq_false (by omega)
    have q2 : decide (siz L obj ≤ off) = false := decide_eq_false (by omega)
    have HC := Aside0.mk hc
    have HM := Aside0.mk hM
    have HT := Aside0.mk hT
    clear hh ho hs hc hsr hx h hM hT hblk hokb
    go_enter Try.func25, Try.ntmps25
    go_wp2_with fail
    refine (rsize W g L obj hrd hl).mono ?_; rintro e w' ⟨rfl, ⟨nd, rfl⟩⟩
    go_wp2_with fail
    repeat (go_quiet (fail); try go_wp2)
    go_ret
    exact ⟨by first | rfl | (simp; done) | (simp [*]; done), by repeat (first | exact HM.out | apply MemO.drewN | apply MemO.drew), by first | exact HT.out | exact HT.out.drewN nd | (repeat (first | exact HT.out | apply Tch.drewN | apply Tch.drew))⟩
  · have hc' : isC L obj off = false := by simpa using hc
    have e2 : sto L obj off v = L := by unfold sto; rw [if_neg hc]
    rw [hc', e2]
    have HC := Aside0.mk hc'
    have HM := Aside0.mk h
    by_cases hn : off < 0
    · have q1 : decide (off < 0) = true := decide_eq_true hn
      clear hc e2 hc' hsr hx hn h
      go_enter Try.func25, Try.ntmps25
      go_wp2_with fail
      repeat (go_quiet (fail); try go_wp2)
      go_ret
      exact ⟨by first | rfl | (simp; done) | (simp [*]; done), by repeat (first | exact HM.out | apply MemO.drewN | apply MemO.drew), by repeat (first | exact Tch.refl _ _ | apply Tch.drewN | apply Tch.drew)⟩
    · have q1 : decide (off < 0) = false := decide_eq_false hn
      have q2 : decide (siz L obj ≤ off) = true := decide_eq_true (by unfold isC at hc; simp at hc; omega)
      clear hc e2 hc' hsr hx hn h
      go_enter Try.func25, Try.ntmps25
      go_wp2_with fail
      refine (rsize W g L obj hrd hl).mono ?_; rintro e w' ⟨rfl, ⟨nd, rfl⟩⟩
      go_wp2_with fail
      repeat (go_quiet (fail); try go_wp2)
      go_ret
      exact ⟨by first | rfl | (simp; done) | (simp [*]; done), by repeat (first | exact HM.out | apply MemO.drewN | apply MemO.drew), by repeat (first | exact Tch.refl _ _ | apply Tch.drewN | apply Tch.drew)⟩

end Go.Proofs.Ytnibdgjlbhdmfaa.MemKit
