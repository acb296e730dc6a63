/- The walk of plnlaw10.MemLast: it answers true. -/
import Derived.Test.YtnibdgjlbhdmfaaMemFirst
namespace Go.Proofs.Ytnibdgjlbhdmfaa.MemKit
open Go.RowKit Go.Proofs.Ytnibdgjlbhdmfaa.PMemPlays Go.Proofs.YtnibdgjlbhdmfaaW.PrintWords Go.Proofs.YtnibdgjlbhdmfaaW.PrintLast Go.Proofs.YtnibdgjlbhdmfaaW.PrintMore
set_option linter.unusedVariables false
set_option linter.unusedSimpArgs false
theorem sto_len (L : List (List Int)) (o f v : Int) : (sto L o f v).length = L.length := by
  unfold sto
  split <;> simp
theorem siz_sto (L : List (List Int)) (o f v p : Int) : siz (sto L o f v) p = siz L p := by
  unfold siz
  rw [sto_len]
  unfold sto
  split
  · split
    · rename_i h1 h2
      unfold rd_L1
      simp only [List.getD_eq_getElem?_getD, List.getElem?_set]
      split
      · split
        · simp [rd_L1]
          rename_i h3 h4
          rw [h3]
        · rename_i h3 h4
          omega
      · rfl
    · rfl
  · rfl
theorem Drawn0.two (w : World) (a b : Nat) : Drawn0 w ((w.drewN a).drewN b) := ⟨a + b, by simp [World.drewN, Nat.add_assoc]⟩
theorem w64 (n : Int) (h : -9223372036854775808 ≤ n ∧ n ≤ 9223372036854775807) : wrap64 n = n := by
  unfold wrap64
  omega
theorem sto_max (L : List (List Int)) (o f v : Int) (h : ∀ x ∈ L, x.length ≤ 1000000) : ∀ x ∈ sto L o f v, x.length ≤ 1000000 := by
  unfold sto
  split
  · intro x hx
    rcases List.mem_or_eq_of_mem_set hx with hx | rfl
    · exact h x hx
    · rw [List.length_set]
      unfold rd_L1
      rw [List.getD_eq_getElem?_getD]
      cases hg : L[o.toNat]? with
      | none => simp
      | some y => exact h y (List.mem_of_getElem? hg)
  · exact h
theorem rdset (l : List Int) (p j v : Int) (hp : 0 ≤ p) (hp2 : p < l.length) (hj : 0 ≤ j) : rd (l.set p.toNat v) j = if j = p then v else rd l j := by
  unfold rd
  rw [List.getD_eq_getElem?_getD, List.getD_eq_getElem?_getD, List.getElem?_set]
  by_cases h : j = p
  · subst h
    rw [if_pos rfl, if_pos rfl, if_pos (by omega)]
    rfl
  · rw [if_neg (by omega), if_neg h]
theorem rdset1 (L : List (List Int)) (p k : Int) (y : List Int) (hp : 0 ≤ p) (hp2 : p < L.length) (hk : 0 ≤ k) : rd_L1 (L.set p.toNat y) k = if k = p then y else rd_L1 L k := by
  unfold rd_L1
  rw [List.getD_eq_getElem?_getD, List.getD_eq_getElem?_getD, List.getElem?_set]
  by_cases h : k = p
  · subst h
    rw [if_pos rfl, if_pos rfl, if_pos (by omega)]
    rfl
  · rw [if_neg (by omega), if_neg h]
theorem isC_bound {L : List (List Int)} {o f : Int} (h : isC L o f = true) : 0 ≤ o ∧ o < L.length ∧ 0 ≤ f ∧ f < (rd_L1 L o).length := by
  unfold isC siz at h
  have h := of_decide_eq_true h
  split at h
  · omega
  · omega
/-- What a Load answers after a Store. -/
theorem cel_sto (L : List (List Int)) (a2 a3 a4 k j : Int) (hc : isC L a2 a3 = true) (hj : isC L k j = true) : cel (sto L a2 a3 a4) k j = if (k == a2 && j == a3) = true then a4 else rd (rd_L1 L k) j := by
  have hb := isC_bound hc
  have hk := isC_bound hj
  have h1 : isC (sto L a2 a3 a4) k j = true := by
    unfold isC at hj ⊢
    rw [siz_sto]
    exact hj
  unfold cel
  rw [if_pos h1]
  unfold sto
  rw [if_pos hc, rdset1 _ _ _ _ hb.1 hb.2.1 hk.1]
  by_cases h : k = a2
  · subst h
    rw [if_pos rfl, rdset _ _ _ _ hb.2.2.1 hb.2.2.2 hk.2.2.1]
    by_cases h3 : j = a3
    · subst h3
      simp
    · rw [if_neg h3, if_neg (by simp [h3])]
  · rw [if_neg h, if_neg (by simp [h])]
theorem cellv (l0 l1 : List Int) (a2 a3 a4 k j : Int) (bb : Bool) (hb : isC [l0, l1] a2 a3 = bb) (hk : 0 ≤ k ∧ k < 2) (hj : 0 ≤ j) (hj2 : j < (rd_L1 [l0, l1] k).length) :
    isC (sto [l0, l1] a2 a3 a4) k j = true ∧ cel (sto [l0, l1] a2 a3 a4) k j = if (bb && k == a2 && j == a3) = true then a4 else rd (rd_L1 [l0, l1] k) j := by
  have h0 : isC [l0, l1] k j = true := by
    unfold isC siz
    rw [if_pos (by simp only [List.length_cons, List.length_nil]; omega)]
    exact decide_eq_true ⟨hj, hj2⟩
  have h1 : isC (sto [l0, l1] a2 a3 a4) k j = true := by
    unfold isC at h0 ⊢
    rw [siz_sto]
    exact h0
  refine ⟨h1, ?_⟩
  cases bb with
  | false =>
    unfold sto
    rw [if_neg (by rw [hb]; simp)]
    unfold cel
    rw [if_pos h0]
    simp
  | true =>
    rw [cel_sto _ _ _ _ _ _ hb h0]
    simp
theorem Rd_alloc {T : Nat} {W : World} {base : Nat} {ok : Nat → Prop} {g : Nat} {L : List (List Int)} (h : MemO T W base ok g L) (o : Obj) : Aside0 (Rd (W.alloc o) g L) :=
  ⟨(h.below (below_alloc (Below.refl W.heap.size W) o) (Nat.le_refl _)).reads⟩
set_option maxHeartbeats 8000000 in
set_option maxRecDepth 100000 in
theorem last (A0 : Option Addr) (c0 : Nat) (l0 : List Int) (A1 : Option Addr) (c1 : Nat) (l1 : List Int) (a2 a3 a4 : Int) (W : World) (hr0 : Kd.C (Kd.int .i64) W A0 l0.length l0) (hc0 : l0.length ≤ c0) (hr1 : Kd.C (Kd.int .i64) W A1 l1.length l1) (hc1 : l1.length ≤ c1) :
    Calls Try.prog 4 #[.slice A0 l0.length c0, .slice A1 l1.length c1, .int .i64 a2, .int .i64 a3, .int .i64 a4] W fun e w' => e = .returned (.bool true) ∧ Below W.heap.size W w' := by
  have HC := Aside0.mk hr0
  have HCC := Aside0.mk hc0
  have HD := Aside0.mk hr1
  have HDC := Aside0.mk hc1
  clear hr0 hc0 hr1 hc1
  by_cases h20 : (20 : Int) < l0.length
  · have p0 : decide ((20 : Int) < l0.length) = true := decide_eq_true h20
    clear h20
    go_enter Try.func4, Try.ntmps4
    go_wp2_with fail
    refine (first _).mono ?_
    rintro e w1 ⟨rfl, hb⟩
    have HB := Aside0.mk hb
    clear hb
    go_wp2_with fail
    refine (first _).mono ?_
    rintro e w2 ⟨rfl, hb⟩
    have HB2 := Aside0.mk (below_step HB.out hb)
    clear hb
    go_wp2_with fail
    go_ret
    exact ⟨by first | rfl | (simp; done) | (simp [*]; done), HB2.out⟩
  · have p0 : decide ((20 : Int) < l0.length) = false := decide_eq_false h20
    by_cases h21 : (20 : Int) < l1.length
    · have p1 : decide ((20 : Int) < l1.length) = true := decide_eq_true h21
      clear h20 h21
      go_enter Try.func4, Try.ntmps4
      go_wp2_with fail
      refine (first _).mono ?_
      rintro e w1 ⟨rfl, hb⟩
      have HB := Aside0.mk hb
      clear hb
      go_wp2_with fail
      refine (first _).mono ?_
      rintro e w2 ⟨rfl, hb⟩
      have HB2 := Aside0.mk (below_step HB.out hb)
      clear hb
      go_wp2_with fail
      go_ret
      exact ⟨by first | rfl | (simp; done) | (simp [*]; done), HB2.out⟩
    · have p1 : decide ((20 : Int) < l1.length) = false := decide_eq_false h21
      have HL := Aside0.mk (show l0.length ≤ 20 ∧ l1.length ≤ 20 by omega)
      clear h20 h21
      go_enter Try.func4, Try.ntmps4
      go_upto_region 11 with fail
      refine (first _).mono ?_
      rintro e w1 ⟨rfl, hb⟩
      have HB := Aside0.mk hb
      clear hb
      go_upto_region 11 with fail
      refine (newG _).mono ?_
      rintro e w2 ⟨rfl, hm, ht⟩
      have HG := Aside0.mk (MemO.lt (hm 0 (fun _ => False) (fun _ h => h.elim)))
      have HM2 : Aside0 (MemO 73 w2 w2.heap.size (fun k => w2.heap.size ≤ k) w1.heap.size []) := ⟨hm w2.heap.size (fun k => w2.heap.size ≤ k) (fun k hk => by have := HG.out; omega)⟩
      have HT2 := Aside0.mk (below_step HB.out (ht.to_below (Nat.le_refl _) (fun _ h => h.elim)))
      clear hm ht
      go_upto_region 11 with fail
      refine (makeB w2 w1.heap.size w2.heap.size [] A0 c0 l0 w2.heap.size HM2.out (Nat.le_refl _) (Nat.le_refl _) (Kd.C_below HC.out HT2.out) HCC.out (by have := HL.out; omega) (by decide)).mono ?_
      rintro e w3 ⟨rfl, hm, ht⟩
      rw [List.nil_append] at hm
      have HM3 := Aside0.mk hm
      have HU3 := Aside0.mk ht.size
      have HT3 := Aside0.mk (Below.trans HT2.out (ht.to_below (B := W.heap.size) HT2.out.size (fun k hk => by have h1 := HT2.out.size; have h2 := HB.out.size; rcases hk with hk | hk <;> omega)))
      clear hm ht HM2
      go_upto_region 11 with fail
      refine (makeB w3 w1.heap.size w2.heap.size [l0] A1 c1 l1 w2.heap.size HM3.out HU3.out HU3.out (Kd.C_below HD.out HT3.out) HDC.out (by have := HL.out; omega) (by simp)).mono ?_
      rintro e w4 ⟨rfl, hm, ht⟩
      have HM4 : Aside0 (MemO 73 w4 w2.heap.size (fun k => w2.heap.size ≤ k) w1.heap.size [l0, l1]) := ⟨hm⟩
      have HT4 := Aside0.mk (Below.trans HT3.out (ht.to_below (B := W.heap.size) HT3.out.size (fun k hk => by have h1 := HT2.out.size; have h2 := HB.out.size; rcases hk with hk | hk <;> omega)))
      clear hm ht HM3
      go_upto_region 11 with fail
      refine (store _ _ [l0, l1] a2 a3 a4 w2.heap.size _ HM4.out (by simp) (by intro x hx; have := HL.out; simp at hx; rcases hx with rfl | rfl <;> omega)).mono ?_
      rintro e w5 ⟨rfl, hm, ht⟩
      have HM5 := Aside0.mk hm
      have HT5 := Aside0.mk (Below.trans HT4.out (ht.to_below (B := W.heap.size) HT4.out.size (fun k hk => by have h1 := HT2.out.size; omega)))
      clear hm ht HM4
      obtain ⟨bb, hbb⟩ : ∃ b, isC [l0, l1] a2 a3 = b := ⟨_, rfl⟩
      rw [hbb]
      have HBB := Aside0.mk hbb
      clear hbb
      go_upto_region 11 with fail
      have HR6 := Aside0.mk (Rd_alloc HM5.out (Obj.cells #[Value.slice A0 l0.length c0, Value.slice A1 l1.length c1] 30 (0, 0))).out
      have hb6 := blk_new w5 (Obj.cells #[Value.slice A0 l0.length c0, Value.slice A1 l1.length c1] 30 (0, 0))
      have HK6 := Aside0.mk (blk_cell hb6 0)
      have HK7 := Aside0.mk (blk_cell hb6 1)
      have HT6 := Aside0.mk (below_alloc HT5.out (Obj.cells #[Value.slice A0 l0.length c0, Value.slice A1 l1.length c1] 30 (0, 0)))
      clear hb6 HT5 HM5
      generalize (w5.alloc (Obj.cells #[Value.slice A0 l0.length c0, Value.slice A1 l1.length c1] 30 (0, 0))) = w6 at *
      go_cut [80] (fun v80 wc => v80 = .bool false ∧ Drawn0 w6 wc)
      case first =>
        have hbb := HBB.out
        unfold isC at hbb
        by_cases h1 : 0 ≤ a2
        · have d1 : decide (0 ≤ a2) = true := decide_eq_true h1
          by_cases h2 : a2 < 2
          · have d2 : decide (a2 < 2) = true := decide_eq_true h2
            by_cases h3 : 0 ≤ a3
            · have d3 : decide (0 ≤ a3) = true := decide_eq_true h3
              have d4 : decide (a3 < siz [l0, l1] a2) = bb := by rw [← hbb]; simp [h3]
              clear hbb h1 h2 h3 HBB
              have dd := d4
              clear d4
              subst dd
              go_wp2_with fail
              refine (len_ _ _ _ HR6.out).mono ?_
              rintro e w7 ⟨rfl, ⟨nd, rfl⟩⟩
              rw [sto_len]
              go_wp2_with fail
              refine (size _ _ _ a2 (HR6.out.drewN nd) (by rw [sto_len]; simp)).mono ?_
              rintro e w8 ⟨rfl, ⟨nd2, rfl⟩⟩
              rw [siz_sto]
              go_wp2_with fail
              repeat (go_quiet (fail); try go_wp2)
              go_meet
              case rel => exact ⟨by first | rfl | (simp; done) | (simp [*]; done), ⟨_, rfl⟩⟩
            · have d3 : decide (0 ≤ a3) = false := decide_eq_false h3
              have d4 : bb = false := by rw [← hbb]; simp [h3]
              subst d4
              clear hbb h1 h2 h3 HBB
              go_wp2_with fail
              refine (len_ _ _ _ HR6.out).mono ?_
              rintro e w7 ⟨rfl, ⟨nd, rfl⟩⟩
              rw [sto_len]
              go_wp2_with fail
              repeat (go_quiet (fail); try go_wp2)
              go_meet
              case rel => exact ⟨by first | rfl | (simp; done) | (simp [*]; done), by repeat (first | exact Drawn0.refl _ | apply Drawn0.step)⟩
          · have d2 : decide (a2 < 2) = false := decide_eq_false h2
            have hz : siz [l0, l1] a2 = 0 := by
              unfold siz
              rw [if_neg (by simp only [List.length_cons, List.length_nil]; omega)]
            have d4 : bb = false := by rw [← hbb]; exact decide_eq_false (by rw [hz]; omega)
            subst d4
            clear hbb h1 h2 HBB hz
            go_wp2_with fail
            refine (len_ _ _ _ HR6.out).mono ?_
            rintro e w7 ⟨rfl, ⟨nd, rfl⟩⟩
            rw [sto_len]
            go_wp2_with fail
            repeat (go_quiet (fail); try go_wp2)
            go_meet
            case rel => exact ⟨by first | rfl | (simp; done) | (simp [*]; done), by repeat (first | exact Drawn0.refl _ | apply Drawn0.step)⟩
        · have d1 : decide (0 ≤ a2) = false := decide_eq_false h1
          have hz : siz [l0, l1] a2 = 0 := by
            unfold siz
            rw [if_neg (by omega)]
          have d4 : bb = false := by rw [← hbb]; exact decide_eq_false (by rw [hz]; omega)
          subst d4
          clear hbb h1 HBB hz
          go_wp2_with fail
          refine (len_ _ _ _ HR6.out).mono ?_
          rintro e w7 ⟨rfl, ⟨nd, rfl⟩⟩
          rw [sto_len]
          go_wp2_with fail
          repeat (go_quiet (fail); try go_wp2)
          go_meet
          case rel => exact ⟨by first | rfl | (simp; done) | (simp [*]; done), by repeat (first | exact Drawn0.refl _ | apply Drawn0.step)⟩
      case rest =>
        obtain ⟨rfl, hd⟩ := hcut
        have HD6 := Aside0.mk hd
        clear hd
        go_wp2
        go_loopg [16] 3 (fun kq v16 w' => ∃ (k : Int), v16 = .int .i64 k ∧ Aside0 (0 ≤ k ∧ k ≤ 2 ∧ k + kq = 3) ∧ Aside0 (Drawn0 w6 w'))
        case atStart => exact ⟨0, by first | rfl | (simp; done) | (simp [*]; done), ⟨by omega⟩, HD6⟩
        case round =>
          obtain ⟨k, rfl, HK, HD8⟩ := hrel
          cases gk with
          | zero => exact absurd HK.out (by omega)
          | succ k2 =>
            by_cases hk2 : k < 2
            · have q0 : decide (k < 2) = true := decide_eq_true hk2
              have hk0 := HK.out.1
              have q1 : (0 ≤ k) = True := eq_true hk0
              have q2 : (k < 2) = True := eq_true hk2
              obtain ⟨Ak, ck, lk, hlk, hcell, hCk, hlk2⟩ : ∃ Ak ck lk, rd_L1 [l0, l1] k = lk ∧ w6.cell? ⟨w5.heap.size, k.toNat, none⟩ = some (.slice Ak lk.length ck) ∧ Kd.C (Kd.int .i64) W Ak lk.length lk ∧ lk.length ≤ 20 := by
                have hk : k = 0 ∨ k = 1 := by omega
                rcases hk with rfl | rfl
                · exact ⟨A0, c0, l0, rfl, HK6.out, HC.out, HL.out.1⟩
                · exact ⟨A1, c1, l1, rfl, HK7.out, HD.out, HL.out.2⟩
              have HCK := Aside0.mk hCk
              have HLK := Aside0.mk hlk
              have HLL := Aside0.mk hlk2
              have HKK := Aside0.mk (And.intro hk0 hk2)
              clear hCk hlk hlk2 hk0 hk2
              obtain ⟨nd0, ew⟩ := HD8.out
              subst ew
              clear HD8
              go_wp2
              go_loopg [17] (lk.length + 1) (fun jq v17 w' => ∃ (j : Int), v17 = .int .i64 j ∧ Aside0 (0 ≤ j ∧ j ≤ lk.length ∧ j + jq = lk.length + 1) ∧ Aside0 (Drawn0 w6 w'))
              case atStart => exact ⟨0, by first | rfl | (simp; done) | (simp [*]; done), ⟨by omega⟩, ⟨⟨_, rfl⟩⟩⟩
              case round =>
                obtain ⟨j, rfl, HJ, HDJ⟩ := hrel
                obtain ⟨nd1, ew⟩ := HDJ.out
                subst ew
                clear HDJ
                cases gk with
                | zero => exact absurd HJ.out (by omega)
                | succ j2 =>
                  by_cases hj2 : j < lk.length
                  · have r0 : decide (j < (lk.length : Int)) = true := decide_eq_true hj2
                    have r1 : (0 ≤ j) = True := eq_true HJ.out.1
                    have r2 : (j < (lk.length : Int)) = True := eq_true hj2
                    obtain ⟨adr, rfl, hcr⟩ := Kd.at_int (Kd.C_below HCK.out HT6.out) j HJ.out.1 hj2
                    obtain ⟨hv1, hv2⟩ := cellv l0 l1 a2 a3 a4 k j bb HBB.out HKK.out HJ.out.1 (by rw [HLK.out]; exact hj2)
                    rw [HLK.out] at hv2
                    have HV1 := Aside0.mk hv1
                    have HJ2 := Aside0.mk hj2
                    clear hv1 hj2
                    cases bb with
                    | false =>
                      have hv2 : cel (sto [l0, l1] a2 a3 a4) k j = rd lk j := by rw [hv2]; rfl
                      go_wp2_with fail
                      repeat (go_quiet (fail); try go_wp2_with fail)
                      refine (load _ _ _ k j (HR6.out.drewN nd1) (by rw [sto_len]; simp) (sto_max _ _ _ _ (by intro x hx; have := HL.out; simp at hx; rcases hx with rfl | rfl <;> omega))).mono ?_
                      rintro e w8 ⟨rfl, ⟨nd, rfl⟩⟩
                      rw [HV1.out, hv2]
                      go_wp2_with fail
                      repeat (go_quiet (fail); try go_wp2_with fail)
                      go_roundg j2
                      case measure => omega
                      case rel => exact ⟨wrap64 (j + 1), by first | rfl | (simp; done) | (simp [*]; done), ⟨by have h1 := HJ.out; have h2 := HJ2.out; have h3 := HLL.out; rw [w64 _ (by omega)]; omega⟩, ⟨⟨_, rfl⟩⟩⟩
                    | true =>
                      by_cases g1 : k = a2
                      · have b1 : (k == a2) = true := beq_iff_eq.2 g1
                        by_cases g2 : j = a3
                        · have b2 : (j == a3) = true := beq_iff_eq.2 g2
                          have hv2 : cel (sto [l0, l1] a2 a3 a4) k j = a4 := by rw [hv2, b1, b2]; rfl
                          clear g1 g2
                          go_wp2_with fail
                          repeat (go_quiet (fail); try go_wp2_with fail)
                          refine (load _ _ _ k j (HR6.out.drewN nd1) (by rw [sto_len]; simp) (sto_max _ _ _ _ (by intro x hx; have := HL.out; simp at hx; rcases hx with rfl | rfl <;> omega))).mono ?_
                          rintro e w8 ⟨rfl, ⟨nd, rfl⟩⟩
                          rw [HV1.out, hv2]
                          go_wp2_with fail
                          repeat (go_quiet (fail); try go_wp2_with fail)
                          go_roundg j2
                          case measure => omega
                          case rel => exact ⟨wrap64 (j + 1), by first | rfl | (simp; done) | (simp [*]; done), ⟨by have h1 := HJ.out; have h2 := HJ2.out; have h3 := HLL.out; rw [w64 _ (by omega)]; omega⟩, ⟨⟨_, rfl⟩⟩⟩
                        · have b2 : (j == a3) = false := beq_eq_false_iff_ne.2 g2
                          have hv2 : cel (sto [l0, l1] a2 a3 a4) k j = rd lk j := by rw [hv2, b1, b2]; rfl
                          clear g1 g2
                          go_wp2_with fail
                          repeat (go_quiet (fail); try go_wp2_with fail)
                          refine (load _ _ _ k j (HR6.out.drewN nd1) (by rw [sto_len]; simp) (sto_max _ _ _ _ (by intro x hx; have := HL.out; simp at hx; rcases hx with rfl | rfl <;> omega))).mono ?_
                          rintro e w8 ⟨rfl, ⟨nd, rfl⟩⟩
                          rw [HV1.out, hv2]
                          go_wp2_with fail
                          repeat (go_quiet (fail); try go_wp2_with fail)
                          go_roundg j2
                          case measure => omega
                          case rel => exact ⟨wrap64 (j + 1), by first | rfl | (simp; done) | (simp [*]; done), ⟨by have h1 := HJ.out; have h2 := HJ2.out; have h3 := HLL.out; rw [w64 _ (by omega)]; omega⟩, ⟨⟨_, rfl⟩⟩⟩
                      · have b1 : (k == a2) = false := beq_eq_false_iff_ne.2 g1
                        have hv2 : cel (sto [l0, l1] a2 a3 a4) k j = rd lk j := by rw [hv2, b1]; rfl
                        clear g1
                        go_wp2_with fail
                        repeat (go_quiet (fail); try go_wp2_with fail)
                        refine (load _ _ _ k j (HR6.out.drewN nd1) (by rw [sto_len]; simp) (sto_max _ _ _ _ (by intro x hx; have := HL.out; simp at hx; rcases hx with rfl | rfl <;> omega))).mono ?_
                        rintro e w8 ⟨rfl, ⟨nd, rfl⟩⟩
                        rw [HV1.out, hv2]
                        go_wp2_with fail
                        repeat (go_quiet (fail); try go_wp2_with fail)
                        go_roundg j2
                        case measure => omega
                        case rel => exact ⟨wrap64 (j + 1), by first | rfl | (simp; done) | (simp [*]; done), ⟨by have h1 := HJ.out; have h2 := HJ2.out; have h3 := HLL.out; rw [w64 _ (by omega)]; omega⟩, ⟨⟨_, rfl⟩⟩⟩
                  · have r0 : decide (j < (lk.length : Int)) = false := decide_eq_false hj2
                    clear hj2
                    go_wp2
                    repeat (go_quiet (fail); try go_wp2)
                    go_roundg k2
                    case measure => omega
                    case rel => exact ⟨wrap64 (k + 1), by first | rfl | (simp; done) | (simp [*]; done), ⟨by have h1 := HK.out; have h2 := HKK.out; rw [w64 _ (by omega)]; omega⟩, ⟨⟨_, rfl⟩⟩⟩
            · have q0 : decide (k < 2) = false := decide_eq_false hk2
              obtain ⟨nd0, ew⟩ := HD8.out
              subst ew
              clear hk2 HD8
              go_wp2
              go_ret
              exact ⟨by first | rfl | (simp; done) | (simp [*]; done), by repeat (first | exact HT6.out | apply pw_below_drewN)⟩
theorem lastWalk (a0 : Option Addr) (len0 cap0 : Nat) (z0 : List Int) (a1 : Option Addr) (len1 cap1 : Nat) (z1 : List Int) (a2 : Int) (a3 : Int) (a4 : Int) (w : World) (w0 : (a0 = none ∧ len0 = 0 ∧ cap0 = 0 ∧ z0 = []) ∨ ∃ x, a0 = some x ∧ len0 ≤ cap0 ∧ cap0 ≤ maxLen ∧ z0.length = cap0 ∧ (∀ i, i < z0.length → w.cell? (x.add i) = some (.int .i64 (z0.getD i 0))) ∧ ∀ n ∈ z0, (Lit.int .i64 n).wf = true) (y0 : len0 * 8 ≤ 140737488351232) (w1 : (a1 = none ∧ len1 = 0 ∧ cap1 = 0 ∧ z1 = []) ∨ ∃ x, a1 = some x ∧ len1 ≤ cap1 ∧ cap1 ≤ maxLen ∧ z1.length = cap1 ∧ (∀ i, i < z1.length → w.cell? (x.add i) = some (.int .i64 (z1.getD i 0))) ∧ ∀ n ∈ z1, (Lit.int .i64 n).wf = true) (y1 : len1 * 8 ≤ 140737488351232) (w2 : (Lit.int .i64 a2).wf = true) (w3 : (Lit.int .i64 a3).wf = true) (w4 : (Lit.int .i64 a4).wf = true) :
    Calls Try.prog 4 #[.slice a0 len0 cap0, .slice a1 len1 cap1, .int .i64 a2, .int .i64 a3, .int .i64 a4] w fun e w' => e = .returned (.bool true) ∧ Below w.heap.size w w' := by
  obtain ⟨l0, rfl, hr0, hm0, hw0, hc0⟩ := ReadsInt.ofRowC w0
  obtain ⟨l1, rfl, hr1, hm1, hw1, hc1⟩ := ReadsInt.ofRowC w1
  exact last _ _ l0 _ _ l1 a2 a3 a4 w (Kd.C_of_reads (d := (0 : Int)) (h1 := fun _ => rfl) hr0) hc0 (Kd.C_of_reads (d := (0 : Int)) (h1 := fun _ => rfl) hr1) hc1
end Go.Proofs.Ytnibdgjlbhdmfaa.MemKit
