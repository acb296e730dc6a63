/- The walk of plnlaw10.MemCopies: it answers true. -/
import Derived.Test.YtnibdgjlbhdmfaaMemFirst
namespace Go.Proofs.Ytnibdgjlbhdmfaa.MemKit
open Go.RowKit Go.Proofs.Ytnibdgjlbhdmfaa.PMemPlays Go.Proofs.YtnibdgjlbhdmfaaW.PrintWords Go.Proofs.YtnibdgjlbhdmfaaW.PrintLast Go.Proofs.YtnibdgjlbhdmfaaW.PrintMore
set_option linter.unusedVariables false
theorem key (a1 : Int) (n : Nat) (h0 : 0 < n) (h1 : n ≤ 20) : ∃ k, wrap64 ((IntKind.u64.wrap a1).tmod (n : Int)) = k ∧ 0 ≤ k ∧ k < (n : Int) := by
  refine ⟨_, rfl, ?_⟩
  rw [IntKind.wrap_u64, Int.tmod_eq_emod_of_nonneg (by omega)]
  have h2 := Int.emod_nonneg (a1 % 18446744073709551616) (b := (n : Int)) (by omega)
  have h3 := Int.emod_lt_of_pos (a1 % 18446744073709551616) (b := (n : Int)) (by omega)
  unfold wrap64
  omega
theorem vals (l : List Int) (k v : Int) (h0 : 0 ≤ k) (h1 : k < (l.length : Int)) (hl : l.length ≤ 20) :
    sto [l, l] 0 k v = [l.set k.toNat v, l] ∧ cel [l.set k.toNat v, l] 0 k = v ∧ isC [l.set k.toNat v, l] 0 k = true ∧ cel [l.set k.toNat v, l] 1 k = rd l k ∧ isC [l.set k.toNat v, l] 1 k = true ∧ (∀ x ∈ [l.set k.toNat v, l], x.length ≤ 1000000) ∧ l.length ≤ 1000000 := by
  have hk : k.toNat < l.length := by omega
  have s0 : isC [l, l] 0 k = true := by simp [isC, siz, rd_L1, h0, h1]
  have s1 : isC [l.set k.toNat v, l] 0 k = true := by simp [isC, siz, rd_L1, h0, h1]
  have s2 : isC [l.set k.toNat v, l] 1 k = true := by simp [isC, siz, rd_L1, h0, h1]
  refine ⟨?_, ?_, s1, ?_, s2, ?_, by omega⟩
  · unfold sto; rw [if_pos s0]; simp [rd_L1]
  · unfold cel; rw [if_pos s1]; simp [rd_L1, rd, hk]
  · unfold cel; rw [if_pos s2]; simp [rd_L1, rd]
  · intro x hx
    simp at hx
    rcases hx with rfl | rfl
    · rw [List.length_set]; omega
    · omega
set_option maxHeartbeats 4000000 in
theorem copies (A0 : Option Addr) (c0 : Nat) (l0 : List Int) (a1 a2 : Int) (W : World) (hr0 : Kd.C (Kd.int .i64) W A0 l0.length l0) (hc0 : l0.length ≤ c0) :
    Calls Try.prog 5 #[.slice A0 l0.length c0, .int .i64 a1, .int .i64 a2] W fun e w' => e = .returned (.bool true) ∧ Below W.heap.size W w' := by
  have HC := Aside0.mk hr0
  have HCC := Aside0.mk hc0
  clear hr0 hc0
  by_cases h20 : (20 : Int) < l0.length
  · have p0 : decide ((20 : Int) < l0.length) = true := decide_eq_true h20
    clear h20
    go_enter Try.func5, Try.ntmps5
    go_wp2_with fail
    refine (first _).mono ?_
    rintro e w1 ⟨rfl, hb⟩
    have HB := Aside0.mk hb
    clear hb
    go_wp2_with fail
    refine (first _).mono ?_
    rintro e w2 ⟨rfl, hb⟩
    have HB2 := Aside0.mk (below_step HB.out hb)
    clear hb
    go_wp2_with fail
    go_ret
    exact ⟨by first | rfl | (simp; done) | (simp [*]; done), HB2.out⟩
  · by_cases hz : l0 = []
    · subst hz
      go_enter Try.func5, Try.ntmps5
      go_wp2_with fail
      refine (first _).mono ?_
      rintro e w1 ⟨rfl, hb⟩
      have HB := Aside0.mk hb
      clear hb
      go_wp2_with fail
      refine (first _).mono ?_
      rintro e w2 ⟨rfl, hb⟩
      have HB2 := Aside0.mk (below_step HB.out hb)
      clear hb
      go_wp2_with fail
      go_ret
      exact ⟨by first | rfl | (simp; done) | (simp [*]; done), HB2.out⟩
    · have p0 : decide ((20 : Int) < l0.length) = false := decide_eq_false h20
      have hpos : 0 < l0.length := List.length_pos_iff.2 hz
      have p1 : ((l0.length : Int) == 0) = false := beq_eq_false_iff_ne.2 (by omega)
      have HL := Aside0.mk (show 0 < l0.length ∧ l0.length ≤ 20 by omega)
      clear h20 hz hpos
      go_enter Try.func5, Try.ntmps5
      go_wp2_with fail
      refine (first _).mono ?_
      rintro e w1 ⟨rfl, hb⟩
      have HB := Aside0.mk hb
      clear hb
      go_wp2_with fail
      refine (newG _).mono ?_
      rintro e w2 ⟨rfl, hm, ht⟩
      have HM := Aside0.mk hm
      have HG := Aside0.mk (MemO.lt (hm 0 (fun _ => False) (fun _ h => h.elim)))
      have HT := Aside0.mk (below_step HB.out (ht.to_below (Nat.le_refl _) (fun _ h => h.elim)))
      clear hm ht
      go_wp2_with (first | ((with_reducible refine gate_dst (N := 30) rfl ?_); refine Kd.R_lit (Kd.int .i64) _ 2 ?hg (N := 30) ?hd (xs := ([] : List Int)) (inner := []) (ok := fun _ => True) (okp := fun _ => True) ?hr ?hp (fun _ hk => hk) trivial (Below.refl _ _) (Nat.le_refl _) (by simp) ?_; (case hd => rfl); (case hg => rfl); (case hr => first | (go_simp; done) | (go_simp; rfl)); (case hp => exact (Reps.none _ _)); intro v103 w3 ho4 hb hg_ hnew_; clear hg_ hnew_; have HO104 := Aside0.mk ho4; have HB3 := Aside0.mk hb; clear hb ho4) | ((with_reducible refine gate_builtin (b := .append) (xs := #[.tmp 30, .tmp 31]) rfl ?_); at_builtin; refine Kd.R_append_rows (Kd.int .i64) (w0 := w2) w2.heap.size rfl (.tmp 30) (.tmp 31) 30 2 (.int .i64 0) 8 rfl Try.underlying30 info2 rfl (by decide) (by omega) v103 [] l0 _ _ _ (fun _ => True) (fun _ => False) rfl rfl HO104.out ?aR (fun _ _ h => h) (fun _ h => h.elim) (fun _ _ => trivial) HB3.out HB3.out.size ?aL ?_; (case aR => exact (Kd.C_below (Kd.C_below HC.out HT.out) HB3.out)); (case aL => have := HL.out; simp; omega); intro v106 w5 ho hb hg hat; rw [List.nil_append] at ho; have HB5 := Aside0.mk hb; have HO107 := Aside0.mk ho; clear HB3; clear HO104; clear ho hb hg hat))
      obtain ⟨A5, c5, rfl⟩ := Kd.R_slice HO107.out
      have HR5 := Aside0.mk (Kd.R_mono (ok' := fun k => w2.heap.size ≤ k ∧ k < w5.heap.size) (Kd.R_bound HO107.out) (fun k hk => ⟨hk.2.1, hk.2.2.1⟩))
      have HS5 := Aside0.mk HB5.out.size
      have HM5 : Aside0 (MemO 73 w5 w5.heap.size (fun k => w5.heap.size ≤ k) w1.heap.size []) := ⟨(HM.out w5.heap.size (fun k => w5.heap.size ≤ k) (fun k hk => by have := HG.out; have := HS5.out; omega)).below HB5.out (Nat.le_refl _)⟩
      have HT5 := Aside0.mk (below_step HT.out HB5.out)
      have HC5 := Aside0.mk (Kd.C_below HC.out HT5.out)
      have HW5 := Aside0.mk HB.out.size
      clear HM HB HO107
      have hr5 := Kd.R_reads' HR5.out
      refine (makeB w5 w1.heap.size w5.heap.size [] A5 c5 l0 w5.heap.size HM5.out (Nat.le_refl _) (Nat.le_refl _) hr5.2.2 hr5.2.1 (by have := HL.out; omega) (by decide)).mono ?_
      clear hr5
      rintro e w6 ⟨rfl, hm, ht⟩
      rw [List.nil_append] at hm
      have HM6 := Aside0.mk hm
      have HTC6 := Aside0.mk ht
      have HR6 := Aside0.mk (Kd.R_step HR5.out (w1 := w6) (fun k hk hlt => ht.block k hlt (fun hp => by have := HG.out; have := hk.1; have := hk.2; rcases hp with hp | hp <;> omega)))
      clear hm ht HM5
      go_wp2_with fail
      have hr6 := Kd.R_reads' HR6.out
      refine (makeB w6 w1.heap.size w5.heap.size [l0] A5 c5 l0 w5.heap.size HM6.out HTC6.out.size HTC6.out.size hr6.2.2 hr6.2.1 (by have := HL.out; omega) (by simp)).mono ?_
      clear hr6
      rintro e w7 ⟨rfl, hm, ht⟩
      have HM7 : Aside0 (MemO 73 w7 w5.heap.size (fun k => w5.heap.size ≤ k) w1.heap.size [l0, l0]) := ⟨hm⟩
      have HTC7 := Aside0.mk (HTC6.out.trans ht)
      have HR7 := Aside0.mk (Kd.R_step HR6.out (w1 := w7) (fun k hk hlt => ht.block k hlt (fun hp => by have := HG.out; have := hk.1; have := hk.2; rcases hp with hp | hp <;> omega)))
      clear hm ht HM6 HR6
      obtain ⟨k, hk, hk0, hk1⟩ := key a1 l0.length HL.out.1 HL.out.2
      have hul : IntKind.u64.wrap (l0.length : Int) = l0.length := Go.IntWalk.u64_in _ (by have := HL.out; omega)
      have hz0 : ((l0.length : Int) = 0) = False := eq_false (by have := HL.out; omega)
      have p2 : (0 ≤ k) = True := eq_true hk0
      have p3 : (k < (l0.length : Int)) = True := eq_true hk1
      go_wp2_with fail
      rw [hk]
      clear hk hul hz0
      obtain ⟨gl, cl, el, gb, gl2, cl2, HGl⟩ := Kd.R_form HR7.out (by have := HL.out; omega)
      injection el with ea en ec
      subst ea
      clear en ec
      have hgl := HR7.out.1 gl rfl
      have HGL := Aside0.mk hgl
      obtain ⟨hx0, hf0⟩ := Kd.R_celln 0 HR7.out k hk0 hk1
      have HM8 : Aside0 (MemO 73 (w7.setCell ⟨gl, k.toNat, none⟩ (.int .i64 (Go.bits .xor .i64 a2 5))) w5.heap.size (fun k => w5.heap.size ≤ k) w1.heap.size [l0, l0]) := ⟨HM7.out.tch (P := fun j => j = gl) (Tch.set _ _ _ rfl) (fun j hj => by subst hj; have := HGL.out.2; omega) (fun hj => by have := HGL.out.1; have := HG.out; omega)⟩
      have HT8 : Aside0 (Tch (fun j => W.heap.size ≤ j) w5 (w7.setCell ⟨gl, k.toNat, none⟩ (.int .i64 (Go.bits .xor .i64 a2 5)))) := ⟨(HTC7.out.mono (fun j hj => by have h1 := HT5.out.size; have h2 := HW5.out; rcases hj with hj | hj <;> omega)).trans (Tch.set _ _ _ (by have h1 := HT.out.size; have := hgl.1; show W.heap.size ≤ gl; omega))⟩
      clear HR7 HM7 HTC7 hgl gb gl2 HGl HR5
      go_wp2_with fail
      obtain ⟨es, e1, e2, e3, e4, hx2, hl2⟩ := vals l0 k a2 hk0 hk1 HL.out.2
      refine (store _ _ [l0, l0] 0 k a2 w5.heap.size _ HM8.out (by simp) (by intro x hx; have := HL.out; simp at hx; subst hx; omega)).mono ?_
      rintro e w9 ⟨rfl, hm, ht⟩
      rw [es] at hm
      have HM9 := Aside0.mk hm
      have HT9 : Aside0 (Tch (fun j => W.heap.size ≤ j) w5 w9) := ⟨HT8.out.trans (ht.mono (fun j hj => by have h1 := HT5.out.size; omega))⟩
      clear hm ht HM8 HT8 es
      go_wp2_with fail
      refine (load _ _ [l0.set k.toNat a2, l0] 0 k HM9.out.reads (by simp) hx2).mono ?_
      rintro e w10 ⟨rfl, hd⟩
      rw [e1, e2]
      have HM10 := Aside0.mk (HM9.out.drawn hd)
      have HT10 := Aside0.mk (HT9.out.trans (Tch.drawn hd))
      clear hd HM9 HT9
      go_wp2_with fail
      refine (load _ _ [l0.set k.toNat a2, l0] 1 k HM10.out.reads (by simp) hx2).mono ?_
      rintro e w11 ⟨rfl, hd⟩
      rw [e3, e4]
      have HT11 := Aside0.mk (HT10.out.trans (Tch.drawn hd))
      clear hd HM10 HT10
      have HB11 := Aside0.mk (Below.trans HT5.out (HT11.out.to_below (B := W.heap.size) HT5.out.size (fun _ h => h)))
      obtain ⟨adr, rfl, hcr⟩ := Kd.at_int (Kd.C_below HC.out HB11.out) k hk0 hk1
      clear HT11 hx2 hl2 e1 e2 e3 e4
      go_wp2_with fail
      go_ret
      exact ⟨by first | rfl | (simp; done) | (simp [*]; done), HB11.out⟩
theorem copiesWalk (a0 : Option Addr) (len0 cap0 : Nat) (z0 : List Int) (a1 : Int) (a2 : Int) (w : World) (w0 : (a0 = none ∧ len0 = 0 ∧ cap0 = 0 ∧ z0 = []) ∨ ∃ x, a0 = some x ∧ len0 ≤ cap0 ∧ cap0 ≤ maxLen ∧ z0.length = cap0 ∧ (∀ i, i < z0.length → w.cell? (x.add i) = some (.int .i64 (z0.getD i 0))) ∧ ∀ n ∈ z0, (Lit.int .i64 n).wf = true) (y0 : len0 * 8 ≤ 140737488351232) (w1 : (Lit.int .i64 a1).wf = true) (w2 : (Lit.int .i64 a2).wf = true) :
    Calls Try.prog 5 #[.slice a0 len0 cap0, .int .i64 a1, .int .i64 a2] w fun e w' => e = .returned (.bool true) ∧ Below w.heap.size w w' := by
  obtain ⟨l0, rfl, hr0, hm0, hw0, hc0⟩ := ReadsInt.ofRowC w0
  exact copies _ _ l0 a1 a2 w (Kd.C_of_reads (d := (0 : Int)) (h1 := fun _ => rfl) hr0) hc0
end Go.Proofs.Ytnibdgjlbhdmfaa.MemKit
