/- slices.Clone, and what Make of the program's and of the document's Mem leave. -/
import Derived.Test.YtnibdgjlbhdmfaaMemKit
import Derived.WalkSpells
namespace Go.Proofs.Ytnibdgjlbhdmfaa.MemKit
open Go.RowKit Go.Proofs.Ytnibdgjlbhdmfaa.PMemPlays Go.Proofs.YtnibdgjlbhdmfaaW.PrintWords Go.Proofs.YtnibdgjlbhdmfaaW.PrintLast Go.Proofs.YtnibdgjlbhdmfaaW.PrintMore
set_option linter.unusedVariables false
set_option linter.unusedSimpArgs false
theorem info2 : (Try.prog.info? 2).map (fun i => (i.zero, i.size, i.bytes)) = some (some (.int .i64 0), 1, 8) := by kernel_rfl
theorem info30 : (Try.prog.info? 30).map (fun i => (i.zero, i.size, i.bytes)) = some (some (.slice none 0 0), 1, 24) := by kernel_rfl
theorem c_none {W : World} {xs : List Int} (h : Kd.C (Kd.int .i64) W none xs.length xs) : xs = [] := by
  cases xs with
  | nil => rfl
  | cons x r =>
    obtain ⟨ad, e, _⟩ := Kd.at_int h 0 (by omega) (by simp)
    cases e
set_option maxHeartbeats 2000000 in
theorem clone (W : World) (A : Option Addr) (c : Nat) (xs : List Int) (hC : Kd.C (Kd.int .i64) W A xs.length xs) (hc : xs.length ≤ c) (hl : xs.length ≤ 1000000) :
    Calls Try.prog 47 #[.slice A xs.length c] W fun e w' => ∃ v, e = .returned v ∧ Kd.R (Kd.int .i64) 2 w' W.heap.size (fun _ => True) v xs ∧ Below W.heap.size W w' := by
  cases A with
  | none =>
    have hx := c_none hC
    subst hx
    clear hC hl
    have hnil := @Lib.run_eql_slice_nil
    go_enter Try.func47, Try.ntmps47
    go_wp2
    go_ret
    exact ⟨_, by first | rfl | (simp; done) | (simp [*]; done), Kd.R_nil _ _ _ _ _, Below.refl _ _⟩
  | some ad =>
    have HR0 := Aside0.mk hC
    have HL := Aside0.mk hl
    have HB := Aside0.mk (Below.refl W.heap.size W)
    clear hC hl
    have hnil := @Lib.run_eql_slice_nil
    go_enter Try.func47, Try.ntmps47
    go_wp2_with (first | ((with_reducible refine gate_dst (N := 5) rfl ?_); refine Kd.R_lit (Kd.int .i64) _ 2 ?hg (N := 5) ?hd (xs := ([] : List Int)) (inner := []) (ok := fun _ => True) (okp := fun _ => True) ?hr ?hp (fun _ hk => hk) trivial (Below.refl _ _) (Nat.le_refl _) (by simp) ?_; (case hd => rfl); (case hg => rfl); (case hr => first | (go_simp; done) | (go_simp; rfl)); (case hp => exact (Reps.none _ _)); intro v103 w3 ho4 hb hg_ hnew_; clear hg_ hnew_; have n0_ := Aside0.mk (Kd.R_lower ho4 (below_size HB.out)); have n1_ := Aside0.mk (below_step HB.out hb); clear HB; have HO104 := n0_; have HB := n1_; clear n0_ n1_; clear hb ho4) | ((with_reducible refine gate_builtin (b := .append) (xs := #[.tmp 5, .tmp 6]) rfl ?_); at_builtin; refine Kd.R_append_rows (Kd.int .i64) (w0 := W) W.heap.size rfl (.tmp 5) (.tmp 6) 30 2 (.int .i64 0) 8 rfl Try.underlying30 info2 rfl (by decide) (by omega) v103 [] xs _ _ _ (fun _ => True) (fun _ => False) rfl rfl ?aO ?aR (fun _ _ h => h) (fun _ h => h.elim) ?aF ?aB ?aS ?aL ?_; (case aR => exact (Kd.C_below HR0.out HB.out)); (case aB => exact HB.out); (case aF => exact (fun _ _ => trivial)); (case aO => exact HO104.out); (case aS => exact (below_size HB.out)); (case aL => have := HL.out; simp; omega); intro v106 w5 ho hb hg hat; rw [List.nil_append] at ho; have n0_ := Aside0.mk (hb); have n1_ := Aside0.mk (ho); clear HB; clear HO104; have HB := n0_; have HO107 := n1_; clear n0_ n1_; clear ho hb hg hat))
    go_ret
    exact ⟨_, by first | rfl | (simp; done) | (simp [*]; done), HO107.out, HB.out⟩

set_option maxHeartbeats 4000000 in
theorem make (W : World) (g : Nat) (L : List (List Int)) (A : Option Addr) (c : Nat) (xs : List Int) (base : Nat) (ok : Nat → Prop) (h : MemO 73 W base ok g L) (hgb : base ≤ W.heap.size)
    (hC : Kd.C (Kd.int .i64) W A xs.length xs) (hc : xs.length ≤ c) (hl : xs.length ≤ 1000000) (hL : L.length ≤ 1000000) :
    Calls Try.prog 20 #[.pointer (some ⟨g, 0, none⟩), .slice A xs.length c] W fun e w' => e = .returned (.int .i64 (L.length : Int)) ∧ MemO 73 w' base (fun k => ok k ∨ W.heap.size ≤ k) g (L ++ [xs]) ∧ Tch (fun k => ok k ∨ k = g) W w' := by
  obtain ⟨hne, v, hb0, hS0⟩ := h
  have HG := Aside0.mk hb0
  have HS := Aside0.mk hS0
  have HC := Aside0.mk hC
  have HL := Aside0.mk hl
  have HLL := Aside0.mk hL
  have HN := Aside0.mk hne
  have HGB := Aside0.mk hgb
  clear hS0 hC hl hL hne hgb hb0
  go_enter Try.func20, Try.ntmps20
  go_wp2_with fail
  refine start_ (n := 12) (S := fun w' => w'.heap[g]? = some (.cells #[v] 73 (0, 0))) (ds := [11]) #[false, false, false, false, false, false, false, false, false, false, false, false] (by kernel_rfl) rfl rfl (blk_drew HG.out) (fun hHeld => ?_)
  refine pure_ (i := 0) (N := (some 5)) (v := ?_) (a' := ?_) #[true, false, false, false, false, false, false, false, false, false, false, false] rfl rfl (by kernel_rfl) (fun _ _ _ h => h) (Or.inl ⟨by rfl, ?_⟩) ?_ ?_
  rotate_left
  · intro w'
    go_simp
    with_reducible rfl
  rotate_left
  · simp only [Act.put, List.setIfInBounds_toArray, List.set_cons_zero, List.set_cons_succ, i64_w, i32_w]
    rfl
  refine pure_ (i := 1) (N := (some 6)) (v := ?_) (a' := ?_) #[true, true, false, false, false, false, false, false, false, false, false, false] rfl rfl (by kernel_rfl) (fun _ _ _ h => h) (Or.inl ⟨by rfl, ?_⟩) ?_ ?_
  rotate_left
  · intro w'
    go_simp
    with_reducible rfl
  rotate_left
  · simp only [Act.put, List.setIfInBounds_toArray, List.set_cons_zero, List.set_cons_succ, i64_w, i32_w]
    rfl
  refine pure_ (i := 2) (N := (some 7)) (v := ?_) (a' := ?_) #[true, true, true, false, false, false, false, false, false, false, false, false] rfl rfl (by kernel_rfl) (fun _ _ _ h => h) (Or.inl ⟨by rfl, ?_⟩) ?_ ?_
  rotate_left
  · intro w'
    go_simp
    with_reducible rfl
  rotate_left
  · simp only [Act.put, List.setIfInBounds_toArray, List.set_cons_zero, List.set_cons_succ, i64_w, i32_w]
    rfl
  refine pure_ (i := 3) (N := (some 8)) (v := ?_) (a' := ?_) #[true, true, true, true, false, false, false, false, false, false, false, false] rfl rfl (by kernel_rfl) (fun _ _ _ h => h) (Or.inl ⟨by rfl, ?_⟩) ?_ ?_
  rotate_left
  · intro w'
    go_simp
    with_reducible rfl
  rotate_left
  · simp only [Act.put, List.setIfInBounds_toArray, List.set_cons_zero, List.set_cons_succ, i64_w, i32_w]
    rfl
  refine take_ (i := 4) (N := (some 9)) (v := ?_) (a' := ?_) #[true, true, true, true, true, false, false, false, false, false, false, false] rfl rfl (by kernel_rfl) (fun _ _ _ h => h) (Or.inl ⟨by rfl, ?_⟩) hHeld ?_ ?_
  rotate_left
  · intro w' hS_
    have hcell_ := blk_cell hS_ 0
    go_simp
    with_reducible rfl
  rotate_left
  · simp only [Act.put, List.setIfInBounds_toArray, List.set_cons_zero, List.set_cons_succ, i64_w, i32_w]
    rfl
  refine pure_ (i := 5) (N := (some 10)) (v := ?_) (a' := ?_) #[true, true, true, true, true, true, false, false, false, false, false, false] rfl rfl (by kernel_rfl) (fun _ _ _ h => h) (Or.inl ⟨by rfl, ?_⟩) ?_ ?_
  rotate_left
  · intro w'
    go_simp
    with_reducible rfl
  rotate_left
  · simp only [Act.put, List.setIfInBounds_toArray, List.set_cons_zero, List.set_cons_succ, i64_w, i32_w]
    rfl
  refine one_ (i := 6) (N := (some 11)) #[true, true, true, true, true, true, true, false, false, false, false, false] rfl rfl (by kernel_rfl) (by decide) (fun K hK => ?_)
  refine goes_ Try.func47 (by kernel_rfl) rfl #[.slice A xs.length c] (by rfl) rfl rfl (by (try simp only [List.map_toArray, List.map_cons, List.map_nil]); first | done | rfl) ?_
  refine (clone _ A c xs (Kd.C_drew HC.out) hc HL.out).mono ?_
  rintro e w1 ⟨v1, rfl, ho0, hb⟩
  obtain ⟨A1, c1, rfl⟩ := Kd.R_slice ho0
  refine ⟨_, rfl, ?_⟩
  have HR : Aside0 (Kd.R (Kd.int .i64) 2 w1 W.heap.size (fun _ => True) (.slice A1 xs.length c1) xs) := ⟨ho0⟩
  have HB1 : Aside0 (Below W.heap.size W w1) := ⟨⟨hb.os, hb.tape, hb.output, hb.size, hb.block⟩⟩
  have hHeld1 := (hb.block g (blk_lt hHeld)).trans hHeld
  clear ho0 hb
  refine hK.out _ _ (hHeld1) (fun hHeld => ?_)
  clear hK K
  refine norm_ (a' := ?_) ?_ ?_
  rotate_left
  · show Act.put _ (some 11) _ = _
    simp only [Act.put, List.setIfInBounds_toArray, List.set_cons_zero, List.set_cons_succ, i64_w, i32_w]
    rfl
  refine one_ (i := 7) (N := (some 12)) #[true, true, true, true, true, true, true, true, false, false, false, false] rfl rfl (by kernel_rfl) (by decide) (fun K hK => ?_)
  refine value_ (w1 := ?_) (v := ?_) (by rfl) rfl ?_ ?_
  rotate_left 2
  · go_simp
    constructor
    · rfl
    · rfl
  refine hK.out _ _ (blk_alloc hHeld1 _) (fun hHeld => ?_)
  clear hK K
  refine norm_ (a' := ?_) ?_ ?_
  rotate_left
  · show Act.put _ (some 12) _ = _
    simp only [Act.put, List.setIfInBounds_toArray, List.set_cons_zero, List.set_cons_succ, i64_w, i32_w]
    rfl
  refine one_ (i := 8) (N := (some 13)) #[true, true, true, true, true, true, true, true, true, false, false, false] rfl rfl (by kernel_rfl) (by decide) (fun K hK => ?_)
  have hS1 := Kd.S_bound HS.out
  have hown : ∀ k, v.ownBlock = some k → k < W.heap.size := Kd.S_lt HS.out
  have hS2 : Kd.S (Kd.slice 2 (Kd.int .i64)) 30 w1 base (fun k => (ok k ∨ W.heap.size ≤ k) ∧ ¬ W.heap.size ≤ k) v L := Kd.S_mono (Kd.S_step hS1 (fun k hk hlt => HB1.out.block k hk.2.2.1)) (fun k hk => ⟨.inl hk.1, by have := hk.2.2.1; omega⟩)
  have hM : (Kd.slice 2 (Kd.int .i64)).M w1 base (fun k => W.heap.size ≤ k) xs [.slice A1 xs.length c1] := ⟨_, rfl, Kd.R_mono (Kd.R_lower (Kd.R_bound HR.out) HGB.out) (fun k hk => hk.2.1)⟩
  refine Kd.S_append_step (Kd.slice 2 (Kd.int .i64)) (w0 := W) (W := w1) base rfl (.tmp 9) (.tmp 12) 27 30 (.slice none 0 0) 24 rfl Try.underlying27 info30 rfl (by decide) (by omega) v L xs [.slice A1 xs.length c1] (fun k => ok k ∨ W.heap.size ≤ k) (fun k => W.heap.size ≤ k) rfl rfl hM ?h2 ?h3 hS2 ?h4 ?h5 ?h6 ?_
  case h2 => exact fun k hk => ⟨.inr hk, fun e => by have := hown k e.symm; omega⟩
  case h3 => exact fun k hk => .inr (Nat.le_trans HB1.out.size hk)
  case h4 => exact ⟨HB1.out.os, HB1.out.tape, HB1.out.output, HB1.out.size, fun k hk => HB1.out.block k (Nat.lt_of_lt_of_le hk HGB.out)⟩
  case h5 => exact Nat.le_trans HGB.out HB1.out.size
  case h6 => have := HLL.out; omega
  intro v2 w2 hS3 hb2 hg2 hat2
  obtain ⟨A2, c2, e2⟩ := Kd.R_slice (Kd.S_R hS3)
  rw [List.length_append, List.length_singleton] at e2
  subst e2
  have hHeld2 : w2.heap[g]? = some (.cells #[v] 73 (0, 0)) := (hg2.block g (blk_lt hHeld1) (fun e => by have h1 := (Kd.S_R HS.out).1 g e.symm; exact HN.out g h1 rfl)).trans hHeld1
  have HS3 := Aside0.mk hS3
  have HG2 := Aside0.mk hg2
  clear hS3 hb2 hg2 hat2 hS1 hS2 hM hown
  refine hK.out _ _ (hHeld2) (fun hHeld => ?_)
  clear hK K
  refine norm_ (a' := ?_) ?_ ?_
  rotate_left
  · show Act.put _ (some 13) _ = _
    simp only [Act.put, List.setIfInBounds_toArray, List.set_cons_zero, List.set_cons_succ, i64_w, i32_w]
    rfl
  refine pure_ (i := 9) (N := (some 14)) (v := ?_) (a' := ?_) #[true, true, true, true, true, true, true, true, true, true, false, false] rfl rfl (by kernel_rfl) (fun _ _ _ h => h) (Or.inl ⟨by rfl, ?_⟩) ?_ ?_
  rotate_left
  · intro w'
    go_simp
    with_reducible rfl
  rotate_left
  · simp only [Act.put, List.setIfInBounds_toArray, List.set_cons_zero, List.set_cons_succ, i64_w, i32_w]
    rfl
  refine pure_ (i := 10) (N := (some 15)) (v := ?_) (a' := ?_) #[true, true, true, true, true, true, true, true, true, true, true, false] rfl rfl (by kernel_rfl) (fun _ _ _ h => h) (Or.inl ⟨by rfl, ?_⟩) ?_ ?_
  rotate_left
  · intro w'
    go_simp
    with_reducible rfl
  rotate_left
  · simp only [Act.put, List.setIfInBounds_toArray, List.set_cons_zero, List.set_cons_succ, i64_w, i32_w]
    rfl
  refine last_ (i := 11) (N := none) #[true, true, true, true, true, true, true, true, true, true, true, true] rfl rfl (by kernel_rfl) (by decide) (fun K hK => ?_)
  have hc2 := blk_cell hHeld2 0
  have hf2 := blk_frozen hHeld2 0
  refine skip_ (w1 := w2.setCell ⟨g, 0, none⟩ (.slice A2 (L.length + 1) c2)) (by rfl) rfl ?_ ?_
  · go_simp
  refine hK.out _ _ ?_
  clear hK K
  refine done_ (by kernel_rfl) ?_
  have hb3 : (w2.setCell ⟨g, 0, none⟩ (.slice A2 (L.length + 1) c2)).heap[g]? = some (.cells #[.slice A2 (L.length + 1) c2] 73 (0, 0)) := blk_set hHeld2 0 _
  have HT : Aside0 (Tch (fun k => ok k ∨ k = g) W (w2.setCell ⟨g, 0, none⟩ (.slice A2 (L.length + 1) c2))) := ⟨by
    refine Tch.trans ?_ (Tch.set w2 ⟨g, 0, none⟩ (.slice A2 (L.length + 1) c2) (.inr rfl))
    refine ⟨HG2.out.os.trans HB1.out.os, HG2.out.tape.trans HB1.out.tape, HG2.out.output.trans HB1.out.output, Nat.le_trans HB1.out.size HG2.out.size, fun k hk hP => ?_⟩
    exact (HG2.out.block k (Nat.lt_of_lt_of_le hk HB1.out.size) (fun e => hP (.inl ((Kd.S_R HS.out).1 k e.symm)))).trans (HB1.out.block k hk)⟩
  have HM : Aside0 (MemO 73 (w2.setCell ⟨g, 0, none⟩ (.slice A2 (L.length + 1) c2)) base (fun k => ok k ∨ W.heap.size ≤ k) g (L ++ [xs])) := ⟨by
    refine ⟨fun k hk => ?_, _, hb3, ?_⟩
    · rcases hk with hk | hk
      · exact HN.out k hk
      · have := blk_lt HG.out; omega
    · refine Kd.S_far HS3.out (p := ⟨g, 0, none⟩) (fun k hk => ?_) _
      rcases hk with hk | hk
      · exact HN.out k hk
      · have := blk_lt HG.out
        intro e
        simp only [] at e
        omega⟩
  have hcell3 := blk_cell hb3 0
  have hLL : (L.length : Int) ≤ 1000000 := by have := HLL.out; omega
  generalize w2.setCell ⟨g, 0, none⟩ (.slice A2 (L.length + 1) c2) = w3 at *
  clear hHeld hHeld1 hHeld2 hb3
  go_wp2
  repeat (go_quiet (fail); try go_wp2)
  go_ret
  exact ⟨by first | rfl | (simp; done) | (simp [*]; done) | (simp; omega), by repeat (first | exact HM.out | apply MemO.drewN | apply MemO.drew), by first | exact HT.out | (repeat (first | exact HT.out | apply Tch.drewN | apply Tch.drew))⟩

set_option maxHeartbeats 4000000 in
theorem rmake (W : World) (g : Nat) (L : List (List Int)) (A : Option Addr) (c : Nat) (xs : List Int) (base : Nat) (ok : Nat → Prop) (h : MemO 29 W base ok g L) (hgb : base ≤ W.heap.size)
    (hC : Kd.C (Kd.int .i64) W A xs.length xs) (hc : xs.length ≤ c) (hl : xs.length ≤ 1000000) (hL : L.length ≤ 1000000) :
    Calls Try.prog 21 #[.pointer (some ⟨g, 0, none⟩), .slice A xs.length c] W fun e w' => e = .returned (.int .i64 (L.length : Int)) ∧ MemO 29 w' base (fun k => ok k ∨ W.heap.size ≤ k) g (L ++ [xs]) ∧ Tch (fun k => ok k ∨ k = g) W w' := by
  obtain ⟨hne, v, hb0, hS0⟩ := h
  have HG := Aside0.mk hb0
  have HS := Aside0.mk hS0
  have HC := Aside0.mk hC
  have HL := Aside0.mk hl
  have HLL := Aside0.mk hL
  have HN := Aside0.mk hne
  have HGB := Aside0.mk hgb
  clear hS0 hC hl hL hne hgb hb0
  go_enter Try.func21, Try.ntmps21
  go_wp2_with fail
  refine start_ (n := 13) (S := fun w' => w'.heap[g]? = some (.cells #[v] 29 (0, 0))) (ds := [12]) #[false, false, false, false, false, false, false, false, false, false, false, false, false] (by kernel_rfl) rfl rfl (blk_drew HG.out) (fun hHeld => ?_)
  refine pure_ (i := 0) (N := (some 5)) (v := ?_) (a' := ?_) #[true, false, false, false, false, false, false, false, false, false, false, false, false] rfl rfl (by kernel_rfl) (fun _ _ _ h => h) (Or.inl ⟨by rfl, ?_⟩) ?_ ?_
  rotate_left
  · intro w'
    go_simp
    with_reducible rfl
  rotate_left
  · simp only [Act.put, List.setIfInBounds_toArray, List.set_cons_zero, List.set_cons_succ, i64_w, i32_w]
    rfl
  refine pure_ (i := 1) (N := (some 6)) (v := ?_) (a' := ?_) #[true, true, false, false, false, false, false, false, false, false, false, false, false] rfl rfl (by kernel_rfl) (fun _ _ _ h => h) (Or.inl ⟨by rfl, ?_⟩) ?_ ?_
  rotate_left
  · intro w'
    go_simp
    with_reducible rfl
  rotate_left
  · simp only [Act.put, List.setIfInBounds_toArray, List.set_cons_zero, List.set_cons_succ, i64_w, i32_w]
    rfl
  refine pure_ (i := 2) (N := (some 7)) (v := ?_) (a' := ?_) #[true, true, true, false, false, false, false, false, false, false, false, false, false] rfl rfl (by kernel_rfl) (fun _ _ _ h => h) (Or.inl ⟨by rfl, ?_⟩) ?_ ?_
  rotate_left
  · intro w'
    go_simp
    with_reducible rfl
  rotate_left
  · simp only [Act.put, List.setIfInBounds_toArray, List.set_cons_zero, List.set_cons_succ, i64_w, i32_w]
    rfl
  refine pure_ (i := 3) (N := (some 8)) (v := ?_) (a' := ?_) #[true, true, true, true, false, false, false, false, false, false, false, false, false] rfl rfl (by kernel_rfl) (fun _ _ _ h => h) (Or.inl ⟨by rfl, ?_⟩) ?_ ?_
  rotate_left
  · intro w'
    go_simp
    with_reducible rfl
  rotate_left
  · simp only [Act.put, List.setIfInBounds_toArray, List.set_cons_zero, List.set_cons_succ, i64_w, i32_w]
    rfl
  refine take_ (i := 4) (N := (some 9)) (v := ?_) (a' := ?_) #[true, true, true, true, true, false, false, false, false, false, false, false, false] rfl rfl (by kernel_rfl) (fun _ _ _ h => h) (Or.inl ⟨by rfl, ?_⟩) hHeld ?_ ?_
  rotate_left
  · intro w' hS_
    have hcell_ := blk_cell hS_ 0
    go_simp
    with_reducible rfl
  rotate_left
  · simp only [Act.put, List.setIfInBounds_toArray, List.set_cons_zero, List.set_cons_succ, i64_w, i32_w]
    rfl
  refine pure_ (i := 6) (N := (some 11)) (v := ?_) (a' := ?_) #[true, true, true, true, true, false, true, false, false, false, false, false, false] rfl rfl (by kernel_rfl) (fun _ _ _ h => h) (Or.inl ⟨by rfl, ?_⟩) ?_ ?_
  rotate_left
  · intro w'
    go_simp
    with_reducible rfl
  rotate_left
  · simp only [Act.put, List.setIfInBounds_toArray, List.set_cons_zero, List.set_cons_succ, i64_w, i32_w]
    rfl
  refine one_ (i := 5) (N := (some 10)) #[true, true, true, true, true, true, true, false, false, false, false, false, false] rfl rfl (by kernel_rfl) (by decide) (fun K hK => ?_)
  refine Kd.R_lit_step (Kd.int .i64) (w0 := W) W.heap.size 2 (by rfl) (N := 10) rfl (xs := ([] : List Int)) (inner := []) (ok := fun _ => True) (okp := fun _ => True) ?hr (Reps.none _ _) (fun _ hk => hk) trivial (by exact ⟨rfl, rfl, rfl, Nat.le_refl _, fun _ _ => rfl⟩) (Nat.le_refl _) (by simp) ?_
  case hr => first | (go_simp; done) | (go_simp; rfl)
  intro v0 w0 ho0 hb hg0 hn0
  have hHeld0 : w0.heap[g]? = some (.cells #[v] 29 (0, 0)) := (hb.block g (blk_lt hHeld)).trans hHeld
  have HR0 : Aside0 (Kd.R (Kd.int .i64) 2 w0 W.heap.size (fun _ => True) v0 []) := ⟨ho0⟩
  have HB0 := Aside0.mk hb
  clear ho0 hb hg0 hn0
  refine hK.out _ _ (hHeld0) (fun hHeld => ?_)
  clear hK K
  refine norm_ (a' := ?_) ?_ ?_
  rotate_left
  · show Act.put _ (some 10) _ = _
    simp only [Act.put, List.setIfInBounds_toArray, List.set_cons_zero, List.set_cons_succ, i64_w, i32_w]
    rfl
  refine one_ (i := 7) (N := (some 12)) #[true, true, true, true, true, true, true, true, false, false, false, false, false] rfl rfl (by kernel_rfl) (by decide) (fun K hK => ?_)
  refine Kd.R_append_rows_step (Kd.int .i64) (w0 := W) W.heap.size rfl (.tmp 10) (.tmp 11) 30 2 (.int .i64 0) 8 rfl Try.underlying30 info2 rfl (by decide) (by omega) v0 [] xs _ _ _ (fun _ => True) (fun _ => False) rfl rfl HR0.out (Kd.C_below HC.out HB0.out) (fun _ _ h => h) (fun _ h => h.elim) (fun _ _ => trivial) HB0.out HB0.out.size ?aL ?_
  case aL => have := HL.out; simp; omega
  intro v1 w1 ho hb hg hat
  rw [List.nil_append] at ho
  obtain ⟨A1, c1, rfl⟩ := Kd.R_slice ho
  have HR : Aside0 (Kd.R (Kd.int .i64) 2 w1 W.heap.size (fun _ => True) (.slice A1 xs.length c1) xs) := ⟨ho⟩
  have HB1 : Aside0 (Below W.heap.size W w1) := ⟨hb⟩
  have hHeld1 : w1.heap[g]? = some (.cells #[v] 29 (0, 0)) := (hb.block g (blk_lt HG.out)).trans HG.out
  clear ho hb hg hat
  refine hK.out _ _ (hHeld1) (fun hHeld => ?_)
  clear hK K
  refine norm_ (a' := ?_) ?_ ?_
  rotate_left
  · show Act.put _ (some 12) _ = _
    simp only [Act.put, List.setIfInBounds_toArray, List.set_cons_zero, List.set_cons_succ, i64_w, i32_w]
    rfl
  refine one_ (i := 8) (N := (some 13)) #[true, true, true, true, true, true, true, true, true, false, false, false, false] rfl rfl (by kernel_rfl) (by decide) (fun K hK => ?_)
  refine value_ (w1 := ?_) (v := ?_) (by rfl) rfl ?_ ?_
  rotate_left 2
  · go_simp
    constructor
    · rfl
    · rfl
  refine hK.out _ _ (blk_alloc hHeld1 _) (fun hHeld => ?_)
  clear hK K
  refine norm_ (a' := ?_) ?_ ?_
  rotate_left
  · show Act.put _ (some 13) _ = _
    simp only [Act.put, List.setIfInBounds_toArray, List.set_cons_zero, List.set_cons_succ, i64_w, i32_w]
    rfl
  refine one_ (i := 9) (N := (some 14)) #[true, true, true, true, true, true, true, true, true, true, false, false, false] rfl rfl (by kernel_rfl) (by decide) (fun K hK => ?_)
  have hS1 := Kd.S_bound HS.out
  have hown : ∀ k, v.ownBlock = some k → k < W.heap.size := Kd.S_lt HS.out
  have hS2 : Kd.S (Kd.slice 2 (Kd.int .i64)) 30 w1 base (fun k => (ok k ∨ W.heap.size ≤ k) ∧ ¬ W.heap.size ≤ k) v L := Kd.S_mono (Kd.S_step hS1 (fun k hk hlt => HB1.out.block k hk.2.2.1)) (fun k hk => ⟨.inl hk.1, by have := hk.2.2.1; omega⟩)
  have hM : (Kd.slice 2 (Kd.int .i64)).M w1 base (fun k => W.heap.size ≤ k) xs [.slice A1 xs.length c1] := ⟨_, rfl, Kd.R_mono (Kd.R_lower (Kd.R_bound HR.out) HGB.out) (fun k hk => hk.2.1)⟩
  refine Kd.S_append_step (Kd.slice 2 (Kd.int .i64)) (w0 := W) (W := w1) base rfl (.tmp 9) (.tmp 13) 27 30 (.slice none 0 0) 24 rfl Try.underlying27 info30 rfl (by decide) (by omega) v L xs [.slice A1 xs.length c1] (fun k => ok k ∨ W.heap.size ≤ k) (fun k => W.heap.size ≤ k) rfl rfl hM ?h2 ?h3 hS2 ?h4 ?h5 ?h6 ?_
  case h2 => exact fun k hk => ⟨.inr hk, fun e => by have := hown k e.symm; omega⟩
  case h3 => exact fun k hk => .inr (Nat.le_trans HB1.out.size hk)
  case h4 => exact ⟨HB1.out.os, HB1.out.tape, HB1.out.output, HB1.out.size, fun k hk => HB1.out.block k (Nat.lt_of_lt_of_le hk HGB.out)⟩
  case h5 => exact Nat.le_trans HGB.out HB1.out.size
  case h6 => have := HLL.out; omega
  intro v2 w2 hS3 hb2 hg2 hat2
  obtain ⟨A2, c2, e2⟩ := Kd.R_slice (Kd.S_R hS3)
  rw [List.length_append, List.length_singleton] at e2
  subst e2
  have hHeld2 : w2.heap[g]? = some (.cells #[v] 29 (0, 0)) := (hg2.block g (blk_lt hHeld1) (fun e => by have h1 := (Kd.S_R HS.out).1 g e.symm; exact HN.out g h1 rfl)).trans hHeld1
  have HS3 := Aside0.mk hS3
  have HG2 := Aside0.mk hg2
  clear hS3 hb2 hg2 hat2 hS1 hS2 hM hown
  refine hK.out _ _ (hHeld2) (fun hHeld => ?_)
  clear hK K
  refine norm_ (a' := ?_) ?_ ?_
  rotate_left
  · show Act.put _ (some 14) _ = _
    simp only [Act.put, List.setIfInBounds_toArray, List.set_cons_zero, List.set_cons_succ, i64_w, i32_w]
    rfl
  refine pure_ (i := 10) (N := (some 15)) (v := ?_) (a' := ?_) #[true, true, true, true, true, true, true, true, true, true, true, false, false] rfl rfl (by kernel_rfl) (fun _ _ _ h => h) (Or.inl ⟨by rfl, ?_⟩) ?_ ?_
  rotate_left
  · intro w'
    go_simp
    with_reducible rfl
  rotate_left
  · simp only [Act.put, List.setIfInBounds_toArray, List.set_cons_zero, List.set_cons_succ, i64_w, i32_w]
    rfl
  refine pure_ (i := 11) (N := (some 16)) (v := ?_) (a' := ?_) #[true, true, true, true, true, true, true, true, true, true, true, true, false] rfl rfl (by kernel_rfl) (fun _ _ _ h => h) (Or.inl ⟨by rfl, ?_⟩) ?_ ?_
  rotate_left
  · intro w'
    go_simp
    with_reducible rfl
  rotate_left
  · simp only [Act.put, List.setIfInBounds_toArray, List.set_cons_zero, List.set_cons_succ, i64_w, i32_w]
    rfl
  refine last_ (i := 12) (N := none) #[true, true, true, true, true, true, true, true, true, true, true, true, true] rfl rfl (by kernel_rfl) (by decide) (fun K hK => ?_)
  have hc2 := blk_cell hHeld2 0
  have hf2 := blk_frozen hHeld2 0
  refine skip_ (w1 := w2.setCell ⟨g, 0, none⟩ (.slice A2 (L.length + 1) c2)) (by rfl) rfl ?_ ?_
  · go_simp
  refine hK.out _ _ ?_
  clear hK K
  refine done_ (by kernel_rfl) ?_
  have hb3 : (w2.setCell ⟨g, 0, none⟩ (.slice A2 (L.length + 1) c2)).heap[g]? = some (.cells #[.slice A2 (L.length + 1) c2] 29 (0, 0)) := blk_set hHeld2 0 _
  have HT : Aside0 (Tch (fun k => ok k ∨ k = g) W (w2.setCell ⟨g, 0, none⟩ (.slice A2 (L.length + 1) c2))) := ⟨by
    refine Tch.trans ?_ (Tch.set w2 ⟨g, 0, none⟩ (.slice A2 (L.length + 1) c2) (.inr rfl))
    refine ⟨HG2.out.os.trans HB1.out.os, HG2.out.tape.trans HB1.out.tape, HG2.out.output.trans HB1.out.output, Nat.le_trans HB1.out.size HG2.out.size, fun k hk hP => ?_⟩
    exact (HG2.out.block k (Nat.lt_of_lt_of_le hk HB1.out.size) (fun e => hP (.inl ((Kd.S_R HS.out).1 k e.symm)))).trans (HB1.out.block k hk)⟩
  have HM : Aside0 (MemO 29 (w2.setCell ⟨g, 0, none⟩ (.slice A2 (L.length + 1) c2)) base (fun k => ok k ∨ W.heap.size ≤ k) g (L ++ [xs])) := ⟨by
    refine ⟨fun k hk => ?_, _, hb3, ?_⟩
    · rcases hk with hk | hk
      · exact HN.out k hk
      · have := blk_lt HG.out; omega
    · refine Kd.S_far HS3.out (p := ⟨g, 0, none⟩) (fun k hk => ?_) _
      rcases hk with hk | hk
      · exact HN.out k hk
      · have := blk_lt HG.out
        intro e
        simp only [] at e
        omega⟩
  have hcell3 := blk_cell hb3 0
  have hLL : (L.length : Int) ≤ 1000000 := by have := HLL.out; omega
  generalize w2.setCell ⟨g, 0, none⟩ (.slice A2 (L.length + 1) c2) = w3 at *
  clear hHeld hHeld1 hHeld2 hb3
  go_wp2
  repeat (go_quiet (fail); try go_wp2)
  go_ret
  exact ⟨by first | rfl | (simp; done) | (simp [*]; done) | (simp; omega), by repeat (first | exact HM.out | apply MemO.drewN | apply MemO.drew), by first | exact HT.out | (repeat (first | exact HT.out | apply Tch.drewN | apply Tch.drew))⟩

end Go.Proofs.Ytnibdgjlbhdmfaa.MemKit
