import Derived.Test.YtnibdgjlbhdmfaaMemMake
namespace Go.Proofs.Ytnibdgjlbhdmfaa.MemKit
open Go.RowKit Go.Proofs.Ytnibdgjlbhdmfaa.PMemPlays Go.Proofs.YtnibdgjlbhdmfaaW.PrintWords Go.Proofs.YtnibdgjlbhdmfaaW.PrintLast Go.Proofs.YtnibdgjlbhdmfaaW.PrintMore
set_option linter.unusedVariables false
theorem newG (W : World) : Calls Try.prog 19 #[] W fun e w' => e = .returned (.pointer (some ⟨W.heap.size, 0, none⟩)) ∧ (∀ (base : Nat) (ok : Nat → Prop), (∀ k, ok k → k ≠ W.heap.size) → MemO 73 w' base ok W.heap.size []) ∧ Tch (fun _ => False) W w' := by
  go_enter Try.func19, Try.ntmps19
  go_wp2_with (first | ((with_reducible refine gate_dst (N := 2) rfl ?_); refine box_event ?hg (N := 2) ?hd (cs := #[.slice none 0 0]) (t := 73) ?hr ?_; (case hd => rfl); (case hg => rfl); (case hr => first | (go_simp; done) | (go_simp; rfl)); intro gb101 hg w1 hbox hb; have HBX := Aside0.mk hbox; have HB := Aside0.mk hb; have HGB := Aside0.mk hg; clear hb hbox hg))
  go_ret
  have hg := HGB.out
  subst hg
  exact ⟨by first | rfl | (simp; done) | (simp [*]; done), fun base ok hok => ⟨hok, _, HBX.out, Kd.S_nil _ _ _ _ _⟩, Tch.below HB.out⟩
theorem new_ (W : World) : Calls Try.prog 19 #[] W fun e w' => e = .returned (.pointer (some ⟨W.heap.size, 0, none⟩)) ∧ MemO 73 w' W.heap.size (fun k => W.heap.size < k) W.heap.size [] ∧ Tch (fun _ => False) W w' := by
  refine (newG W).mono ?_
  rintro e w' ⟨h1, h2, h3⟩
  exact ⟨h1, h2 _ _ (fun k hk => by omega), h3⟩
theorem MemO.lt {T : Nat} {W : World} {base : Nat} {ok : Nat → Prop} {g : Nat} {L : List (List Int)} (h : MemO T W base ok g L) : g < W.heap.size := by
  obtain ⟨_, v, hb, _⟩ := h
  exact blk_lt hb
/-- Make, for a Mem whose rows may lie in any block past its own. -/
theorem make' (W : World) (g : Nat) (L : List (List Int)) (A : Option Addr) (c : Nat) (xs : List Int) (base : Nat) (h : MemO 73 W base (fun k => g < k) g L) (hgb : base ≤ g)
    (hC : Kd.C (Kd.int .i64) W A xs.length xs) (hc : xs.length ≤ c) (hl : xs.length ≤ 1000000) (hL : L.length ≤ 1000000) :
    Calls Try.prog 20 #[.pointer (some ⟨g, 0, none⟩), .slice A xs.length c] W fun e w' => e = .returned (.int .i64 (L.length : Int)) ∧ MemO 73 w' base (fun k => g < k) g (L ++ [xs]) ∧ Tch (fun k => g ≤ k) W w' := by
  have hlt := h.lt
  refine (make W g L A c xs base _ h (by omega) hC hc hl hL).mono ?_
  rintro e w' ⟨h1, h2, h3⟩
  exact ⟨h1, h2.mono (fun k hk => by rcases hk with hk | hk <;> omega) (fun k hk => by omega), h3.mono (fun k hk => by rcases hk with hk | hk <;> omega)⟩
theorem store' (W : World) (g : Nat) (L : List (List Int)) (obj off v : Int) (base : Nat) (h : MemO 73 W base (fun k => g < k) g L) (hl : L.length ≤ 1000000) (hx : ∀ x ∈ L, x.length ≤ 1000000) :
    Calls Try.prog 24 #[.pointer (some ⟨g, 0, none⟩), .int .i64 obj, .int .i64 off, .int .i64 v] W fun e w' => e = .returned (.bool (isC L obj off)) ∧ MemO 73 w' base (fun k => g < k) g (sto L obj off v) ∧ Tch (fun k => g ≤ k) W w' := by
  refine (store W g L obj off v base _ h hl hx).mono ?_
  rintro e w' ⟨h1, h2, h3⟩
  exact ⟨h1, h2, h3.mono (fun k hk => by omega)⟩
/-- Make, for a Mem whose rows lie in blocks from B on. -/
theorem makeB (W : World) (g B : Nat) (L : List (List Int)) (A : Option Addr) (c : Nat) (xs : List Int) (base : Nat) (h : MemO 73 W base (fun k => B ≤ k) g L) (hgb : base ≤ W.heap.size) (hB : B ≤ W.heap.size)
    (hC : Kd.C (Kd.int .i64) W A xs.length xs) (hc : xs.length ≤ c) (hl : xs.length ≤ 1000000) (hL : L.length ≤ 1000000) :
    Calls Try.prog 20 #[.pointer (some ⟨g, 0, none⟩), .slice A xs.length c] W fun e w' => e = .returned (.int .i64 (L.length : Int)) ∧ MemO 73 w' base (fun k => B ≤ k) g (L ++ [xs]) ∧ Tch (fun k => B ≤ k ∨ k = g) W w' := by
  have hlt := h.lt
  have hne := h.1
  refine (make W g L A c xs base _ h hgb hC hc hl hL).mono ?_
  rintro e w' ⟨h1, h2, h3⟩
  exact ⟨h1, h2.mono (fun k hk => by rcases hk with hk | hk <;> omega) hne, h3⟩
theorem MemO.drawn {T : Nat} {W W' : World} {base : Nat} {ok : Nat → Prop} {g : Nat} {L : List (List Int)} (h : MemO T W base ok g L) (hd : Drawn0 W W') : MemO T W' base ok g L :=
  h.tch (P := fun _ => False) (Tch.drawn hd) (fun _ hk => hk.elim) (fun hk => hk)
theorem MemO.below {T : Nat} {W W' : World} {base B : Nat} {ok : Nat → Prop} {g : Nat} {L : List (List Int)} (h : MemO T W base ok g L) (hb : Below B W W') (hB : W.heap.size ≤ B) : MemO T W' base ok g L := by
  obtain ⟨hne, v, hg, hS⟩ := h
  exact ⟨hne, v, (hb.block g (Nat.lt_of_lt_of_le (blk_lt hg) hB)).trans hg, Kd.S_step hS (fun k hk hlt => hb.block k (Nat.lt_of_lt_of_le hlt hB))⟩
set_option maxHeartbeats 2000000 in
theorem first (W : World) : Calls Try.prog 18 #[] W fun e w' => e = .returned (.bool true) ∧ Below W.heap.size W w' := by
  go_enter Try.func18, Try.ntmps18
  go_wp2_with fail
  refine (new_ W).mono ?_
  rintro e w1 ⟨rfl, hm, ht⟩
  have HM := Aside0.mk hm
  have HT := Aside0.mk (ht.mono (Q := fun k => W.heap.size ≤ k) (fun _ h => h.elim))
  clear hm ht
  go_wp2_with (first | ((with_reducible refine gate_dst (N := 9) rfl ?_); refine Kd.R_lit (Kd.int .i64) _ 2 ?hg (N := 9) ?hd (xs := ([5, 6] : List Int)) (inner := [.int .i64 5, .int .i64 6]) (ok := fun _ => True) (okp := fun _ => True) ?hr ?hp (fun _ hk => hk) trivial (Below.refl _ _) (Nat.le_refl _) (by simp) ?_; (case hd => rfl); (case hg => rfl); (case hr => first | (go_simp; done) | (go_simp; rfl)); (case hp => exact (Reps.one (show Kd.M (Kd.int .i64) _ _ _ 5 [.int .i64 5] from rfl) (Reps.one (show Kd.M (Kd.int .i64) _ _ _ 6 [.int .i64 6] from rfl) (Reps.none _ _)))); intro v2 w2 ho hb hg_ hnew_; clear hg_ hnew_; have HO := Aside0.mk ho; have HB2 := Aside0.mk hb; clear ho hb))
  obtain ⟨A, c, rfl, hlc, hC⟩ := Kd.R_reads HO.out
  refine (make' _ _ _ A c [5, 6] W.heap.size (HM.out.below HB2.out (Nat.le_refl _)) (Nat.le_refl _) hC hlc (by decide) (by decide)).mono ?_
  rintro e w3 ⟨rfl, hm, ht⟩
  have HM3 : Aside0 (MemO 73 w3 W.heap.size (fun k => W.heap.size < k) W.heap.size [[5, 6]]) := ⟨hm⟩
  have HT3 := Aside0.mk ((HT.out.trans (Tch.below HB2.out)).trans ht)
  clear hm ht hC hlc
  go_wp2_with fail
  refine (load _ _ [[5, 6]] 0 1 HM3.out.reads (by decide) (by simp)).mono ?_
  rintro e w4 ⟨rfl, hd4⟩
  have e1 : cel [[5, 6]] 0 1 = 6 := by decide
  have e2 : isC [[5, 6]] 0 1 = true := by decide
  rw [e1, e2]
  have HM4 := Aside0.mk (HM3.out.drawn hd4)
  have HT4 := Aside0.mk (HT3.out.trans (Tch.drawn hd4))
  clear hd4 e1 e2
  go_wp2_with fail
  refine (len_ _ _ [[5, 6]] HM4.out.reads).mono ?_
  rintro e w5 ⟨rfl, hd5⟩
  have HM5 := Aside0.mk (HM4.out.drawn hd5)
  have HT5 := Aside0.mk (HT4.out.trans (Tch.drawn hd5))
  clear hd5
  go_wp2_with fail
  refine (size _ _ [[5, 6]] 0 HM5.out.reads (by decide)).mono ?_
  rintro e w6 ⟨rfl, hd6⟩
  have e1 : siz [[5, 6]] 0 = 2 := by decide
  rw [e1]
  have HT6 := Aside0.mk (HT5.out.trans (Tch.drawn hd6))
  clear hd6 e1
  go_wp2_with fail
  go_ret
  exact ⟨by first | rfl | (simp; done) | (simp [*]; done), HT6.out.to_below (Nat.le_refl _) (fun _ h => h)⟩
end Go.Proofs.Ytnibdgjlbhdmfaa.MemKit
