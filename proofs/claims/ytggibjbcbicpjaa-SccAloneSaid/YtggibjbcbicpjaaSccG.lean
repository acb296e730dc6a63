/- scc.tarjan.from: what it comes to. -/
import Derived.Test.YtggibjbcbicpjaaSccF
namespace Go.Proofs.Ytggibjbcbicpjaa.Ev
open Go
set_option linter.unusedVariables false
set_option linter.unusedSimpArgs false
def setN (E : List Nat) (T : List Nat) (s : Nat) : List Nat := T.foldr (fun w l => l.set w s) E
theorem setN_int (E : List Nat) (s : Nat) : ∀ T : List Nat, setAll (intL E) (intL T) (s : Int) = intL (setN E T s)
  | [] => rfl
  | w :: T => by
    show (setAll (intL E) (intL T) (s : Int)).set ((w : Int).toNat) (s : Int) = intL ((setN E T s).set w s)
    rw [setN_int E s T, Int.toNat_natCast, intL_set]
theorem setN_len {E : List Nat} {s : Nat} (T : List Nat) : (setN E T s).length = E.length := by
  rw [← intL_len, ← setN_int, setAll_len, intL_len]
theorem in_intL {E T : List Nat} (h : ∀ w, w ∈ T → w < E.length) : ∀ w : Int, w ∈ intL T → 0 ≤ w ∧ w < (E.length : Nat) := fun w hw => by
  obtain ⟨v, hv, rfl⟩ := of_intL hw
  have := h v hv
  omega
theorem setN_get {E T : List Nat} {s : Nat} (h : ∀ w, w ∈ T → w < E.length) (j : Nat) : (setN E T s).getD j 0 = if j ∈ T then s else E.getD j 0 := by
  have h1 := setAll_get (l := intL E) (x := (s : Int)) (d := 0) (intL T) (by rw [intL_len]; exact in_intL h) j
  rw [setN_int, intL_getD, intL_getD] at h1
  by_cases e : j ∈ T
  · rw [if_pos (mem_intL.2 e)] at h1; rw [if_pos e]; omega
  · rw [if_neg fun h => e (mem_intL.1 h)] at h1; rw [if_neg e]; omega
theorem shutAt_app {A B : List Nat} {v : Nat} (hn : (intL (A ++ v :: B)).Nodup) : shutAt (intL (A ++ v :: B)) v = A.length := by
  have hm : (v : Int) ∈ intL (A ++ v :: B) := mem_intL.2 (by simp)
  have h1 := shutAt_lt hm
  refine nodup_get hn h1 (by rw [intL_len]; simp) ((shutAt_get hm).trans ?_)
  rw [intL_getD]
  simp [List.getD_eq_getElem?_getD]
section
variable {g : List (List Int)} {X L E : List Nat} {O : List Bool} {S : List Nat} {nx sn : Nat} {W0 : List (Nat × Nat)} {v k : Nat}
theorem TL.nodup {W : List (Nat × Nat)} (h : TL g X L E O S nx sn W) : (intL S).Nodup := by
  unfold intL List.Nodup
  rw [List.pairwise_map]
  exact h.tj.inc.imp fun hab e => by
    have : _ = _ := Int.ofNat.inj e
    rw [this] at hab
    exact Nat.lt_irrefl _ hab
theorem TL.shutOk {W : List (Nat × Nat)} (hg : smallRows g) (h : TL g X L E O S nx sn W) (hv : v ∈ S) : shutOk O (intL S) (intL E) sn v := by
  have h1 := h.lO
  have h2 := h.lE
  have h3 := hg.1
  have h4 := h.cs
  have h5 := h.cnt
  refine ⟨mem_intL.2 hv, h.nodup, fun w hw => ?_, by rw [intL_len]; omega, by omega, by omega⟩
  obtain ⟨y, hy, rfl⟩ := of_intL hw
  have := (h.tj.inS y hy).1
  rw [intL_len]
  omega
/-- A node is gone over, and its set is told. -/
theorem TL.pop1 (h : TL g X L E O S nx sn (W0 ++ [(v, k)])) (hk : (g.getD v []).length ≤ k) (heq : L.getD v 0 = X.getD v 0) :
    TL g X L (setN E (S.drop (shutAt (intL S) v)) sn) (setAll O ((intL S).drop (shutAt (intL S) v)) false) (S.take (shutAt (intL S) v)) nx (sn + 1) W0 := by
  have hv := h.tj.wS (v, k) (by simp)
  obtain ⟨A, B, rfl⟩ := List.append_of_mem hv
  have hn := h.nodup
  have e1 := shutAt_app hn
  have e2 : (A ++ v :: B).drop A.length = v :: B := by simp
  have e3 : (A ++ v :: B).take A.length = A := by simp
  have e4 : (intL (A ++ v :: B)).drop A.length = intL (v :: B) := by simp [intL]
  rw [e1, e2, e3, e4]
  have hE := h.lE
  have hO := h.lO
  have inB : ∀ w, w ∈ v :: B → w < g.length := fun w hw => (h.tj.inS w (List.mem_append_right _ hw)).1
  have dj : ∀ w, w ∈ A → w ∉ v :: B := fun w ha hb => by
    have := h.tj.inc
    rw [List.pairwise_append] at this
    have := this.2.2 w ha w hb
    omega
  refine ⟨h.lX, h.lL, by rw [setN_len]; exact hE, by rw [setAll_len]; exact hO, fun w => ?_, ?_, h.cnt, ?_, ?_⟩
  · rw [setAll_get (intL (v :: B)) fun w hw => by
      obtain ⟨y, hy, rfl⟩ := of_intL hw
      have := inB y hy
      omega]
    by_cases hw : w ∈ v :: B
    · rw [if_pos (mem_intL.2 hw)]
      exact ⟨fun h => (by cases h), fun ha => absurd hw (dj w ha)⟩
    · rw [if_neg fun h => hw (mem_intL.1 h), h.on w]
      exact ⟨fun hs => (List.mem_append.1 hs).elim id fun h => absurd h hw, fun ha => List.mem_append_left _ ha⟩
  · exact h.tj.pop1 hk heq (fun w hw => by rw [setN_get (fun y hy => by have := inB y hy; omega), if_pos hw]) (fun w hw => by rw [setN_get (fun y hy => by have := inB y hy; omega), if_neg hw])
  · have := h.cs; simp at this; omega
  · have := h.cw; simp at this; omega
theorem TL.pop0 (h : TL g X L E O S nx sn (W0 ++ [(v, k)])) (hk : (g.getD v []).length ≤ k) (hlt : L.getD v 0 < X.getD v 0) {L' : List Nat} (hL : L'.length = g.length) (hl' : ∀ W1 q kq, W0 = W1 ++ [(q, kq)] → L' = L.set q (min (L.getD v 0) (L.getD q 0))) :
    TL g X L' E O S nx sn W0 := by
  refine ⟨h.lX, hL, h.lE, h.lO, h.on, h.tj.pop0 hk hlt fun W1 q kq e => ?_, h.cnt, h.cs, by have := h.cw; simp at this; omega⟩
  have hq := (h.tj.inS q (h.tj.wS (q, kq) (by rw [e]; simp))).1
  have := h.lL
  rw [hl' W1 q kq e, fun_set (by omega), Nat.min_comm]
end
section
variable {g0 : List (List Int)} {i0 l0 : List Int} {o0 : List Bool} {t0 : List Int} {n0 : Int} {e0 : List Int} {m0 r0 : Int}
variable {g : List (List Int)}
theorem from_pop (hg : smallRows g) {X L E : List Nat} {O : List Bool} {S : List Nat} {nx sn : Nat} {W0 : List (Nat × Nat)} {v k : Nat} (hk : (g.getD v []).length ≤ k) (h : TL g X L E O S nx sn (W0 ++ [(v, k)])) :
    ∃ L' E' O' S' sn', TL g X L' E' O' S' nx sn' W0 ∧ Goes C84 U84 (R84 g0 i0 l0 o0 t0 n0 e0 m0 r0) k84_j2 (stj g0 i0 l0 o0 t0 n0 e0 m0 r0 g X L E O S nx sn (W0 ++ [(v, k)]) W0.length) k84_l0 (st0 g0 i0 l0 o0 t0 n0 e0 m0 r0 g X L' E' O' S' nx sn' W0) := by
  have vS := h.tj.wS (v, k) (by simp)
  have hv := (h.tj.inS v vS).1
  have b1 := hg.1
  have hX := h.lX
  have hL := h.lL
  have hO := h.lO
  have cw := h.cw
  have cc := h.cnt
  simp only [List.length_append, List.length_cons, List.length_nil] at cw
  have lv : L.getD v 0 ≤ X.getD v 0 := (h.tj.up (v, k) (by simp)).1
  have hlen : (wL (W0 ++ [(v, k)])).length = W0.length + 1 := by rw [wL_len]; simp
  have hs : ((W0.length + 1 : Nat) : Int) - 1 = (W0.length : Nat) := by omega
  have hget : (wL (W0 ++ [(v, k)])).getD W0.length ⟨0, 0⟩ = ⟨(v : Nat), (k : Nat)⟩ := wL_get W0 [] v k _
  have ht : (wL (W0 ++ [(v, k)])).take W0.length = wL W0 := wL_take W0 _
  have xl : (intL X).length = g.length := by rw [intL_len, hX]
  have ll : (intL L).length = g.length := by rw [intL_len, hL]
  have so := h.shutOk hg vS
  have j1 : ∀ (L' E' : List Nat) (O' : List Bool) (S' : List Nat) (sn' : Nat), Goes C84 U84 (R84 g0 i0 l0 o0 t0 n0 e0 m0 r0) k84_j1 (s84_j1 g0 i0 l0 o0 t0 n0 e0 m0 r0 g (intL X) (intL L') O' (intL S') nx (intL E') sn' (wL W0)) k84_l0 (st0 g0 i0 l0 o0 t0 n0 e0 m0 r0 g X L' E' O' S' nx sn' W0) := fun L' E' O' S' sn' => .step fun J => e84_j1 J _ _ _ _ _ _ _ _ _ _ _ _ _ _ _ _ _ _
  have eS : ∀ n, (intL S).take n = intL (S.take n) := intL_take S
  have eE : setAll (intL E) ((intL S).drop (shutAt (intL S) v)) (sn : Int) = intL (setN E (S.drop (shutAt (intL S) v)) sn) := by
    rw [show (intL S).drop (shutAt (intL S) v) = intL (S.drop (shutAt (intL S) v)) by simp [intL]]
    exact setN_int _ _ _
  by_cases hW : W0 = []
  · subst hW
    simp only [List.length_nil, List.nil_append, Nat.zero_add] at hlen hs hget ht ⊢
    by_cases c : L.getD v 0 = X.getD v 0
    · refine ⟨_, _, _, _, _, TL.pop1 (W0 := []) h hk c, (Goes.trans (.step fun J => ?_) (j1 _ _ _ _ _))⟩
      have c' : (((L.getD v 0 : Nat) : Int) == ((X.getD v 0 : Nat) : Int)) = true := by rw [c]; simp
      unfold stj
      rw [e84_j2]
      simp only [decide_eq_true_eq, decide_eq_false_iff_not]
      rw [hlen, hs, wrap_up (by omega), hget]
      simp only [Int.toNat_natCast, Nat.zero_add, intL_getD, Int.toNat_zero, Nat.sub_zero, List.drop_zero, ht]
      simp (disch := first | omega | assumption | (rw [decide_eq_true_eq]; omega) | (rw [decide_eq_false_iff_not]; omega)) only [↓if_pos, ↓if_neg, if_true, if_false, wrap_up, Int.toNat_natCast, Nat.zero_add, xl, ll, if_pos c', eS, eE]
      rfl
    · refine ⟨L, E, O, S, sn, TL.pop0 (W0 := []) h hk (by omega) hL (fun W1 q kq e => by simp at e), (Goes.trans (.step fun J => ?_) (j1 _ _ _ _ _))⟩
      have c' : ¬ (((L.getD v 0 : Nat) : Int) == ((X.getD v 0 : Nat) : Int)) = true := fun e => c (by have := beq_iff_eq.1 e; omega)
      unfold stj
      rw [e84_j2]
      simp only [decide_eq_true_eq, decide_eq_false_iff_not]
      rw [hlen, hs, wrap_up (by omega), hget]
      simp only [Int.toNat_natCast, Nat.zero_add, intL_getD, Int.toNat_zero, Nat.sub_zero, List.drop_zero, ht]
      simp (disch := first | omega | assumption | (rw [decide_eq_true_eq]; omega) | (rw [decide_eq_false_iff_not]; omega)) only [↓if_pos, ↓if_neg, if_true, if_false, wrap_up, Int.toNat_natCast, Nat.zero_add, xl, ll, if_neg c']
  · obtain ⟨W1, ⟨q, kq⟩, e⟩ : ∃ W1 q, W0 = W1 ++ [q] := ⟨W0.dropLast, W0.getLast hW, by rw [List.dropLast_concat_getLast]⟩
    have hq := (h.tj.inS q (h.tj.wS (q, kq) (by rw [e]; simp))).1
    have hqx : X.getD q 0 < X.getD v 0 := last_lt h.tj (q := (q, kq)) (by rw [e]; simp)
    have hql : L.getD q 0 ≤ X.getD q 0 := (h.tj.up (q, kq) (by rw [e]; simp)).1
    have hqv : q ≠ v := fun e => by rw [e] at hqx; omega
    have wl : W0.length = W1.length + 1 := by rw [e]; simp
    have hs2 : ((W1.length + 1 : Nat) : Int) - 1 = (W1.length : Nat) := by omega
    have hget1 : (wL (W0 ++ [(v, k)])).getD W1.length ⟨0, 0⟩ = ⟨(q : Nat), (kq : Nat)⟩ := by
      rw [e, List.append_assoc]
      exact wL_get W1 [(v, k)] q kq _
    have gv : (L.set q (min (L.getD v 0) (L.getD q 0))).getD v 0 = L.getD v 0 := by rw [getD_set' (by omega), if_neg hqv]
    have ll2 : (intL (L.set q (min (L.getD v 0) (L.getD q 0)))).length = g.length := by rw [intL_len]; simpa using hL
    by_cases c : L.getD v 0 = X.getD v 0
    · have hm : min (L.getD v 0) (L.getD q 0) = L.getD q 0 := Nat.min_eq_right (by omega)
      have hp := TL.pop1 h hk c
      rw [hm, set_same] at ll2
      refine ⟨_, _, _, _, _, hp, (Goes.trans (.step fun J => ?_) (j1 _ _ _ _ _))⟩
      have c' : (((L.getD v 0 : Nat) : Int) == ((X.getD v 0 : Nat) : Int)) = true := by rw [c]; simp
      unfold stj
      rw [e84_j2]
      simp only [decide_eq_true_eq, decide_eq_false_iff_not]
      rw [hlen, hs, wrap_up (by omega), hget, Int.toNat_natCast, Int.toNat_zero, Nat.sub_zero, wl, hs2, wrap_up (by omega), Int.toNat_natCast, Nat.zero_add, Nat.zero_add, hget1]
      simp only [Int.toNat_natCast, Nat.zero_add, intL_getD, min_int, intL_set, hm, set_same, List.drop_zero]
      rw [← wl, ht]
      simp (disch := first | omega | assumption | (rw [decide_eq_true_eq]; omega) | (rw [decide_eq_false_iff_not]; omega)) only [↓if_pos, ↓if_neg, if_true, if_false, wrap_up, Int.toNat_natCast, Nat.zero_add, xl, ll, if_pos c', eS, eE]
      rfl
    · have hp := TL.pop0 h hk (by omega) (L' := L.set q (min (L.getD v 0) (L.getD q 0))) (by simpa using hL) (fun W1' q' kq' e' => by
        have := e.symm.trans e'
        have := List.append_inj' this rfl
        simp only [List.cons.injEq, Prod.mk.injEq, and_true] at this
        rw [← this.2.1])
      refine ⟨_, _, _, _, _, hp, (Goes.trans (.step fun J => ?_) (j1 _ _ _ _ _))⟩
      have c' : ¬ (((L.getD v 0 : Nat) : Int) == ((X.getD v 0 : Nat) : Int)) = true := fun e => c (by have := beq_iff_eq.1 e; omega)
      unfold stj
      rw [e84_j2]
      simp only [decide_eq_true_eq, decide_eq_false_iff_not]
      rw [hlen, hs, wrap_up (by omega), hget, Int.toNat_natCast, Int.toNat_zero, Nat.sub_zero, wl, hs2, wrap_up (by omega), Int.toNat_natCast, Nat.zero_add, Nat.zero_add, hget1]
      simp only [Int.toNat_natCast, Nat.zero_add, intL_getD, min_int, intL_set, List.drop_zero, gv]
      rw [← wl, ht]
      simp (disch := first | omega | assumption | (rw [decide_eq_true_eq]; omega) | (rw [decide_eq_false_iff_not]; omega)) only [↓if_pos, ↓if_neg, if_true, if_false, wrap_up, Int.toNat_natCast, Nat.zero_add, xl, ll, ll2, if_neg c']
theorem from_out (hg : smallRows g) : ∀ (n : Nat) (X L E : List Nat) (O : List Bool) (S : List Nat) (nx sn : Nat) (W : List (Nat × Nat)), 2 * zeros X + W.length < n → TL g X L E O S nx sn W →
    ∃ X' L' E' O' nx' sn', TL g X' L' E' O' [] nx' sn' [] ∧ mono X X' ∧ Goes C84 U84 (R84 g0 i0 l0 o0 t0 n0 e0 m0 r0) k84_l0 (st0 g0 i0 l0 o0 t0 n0 e0 m0 r0 g X L E O S nx sn W) k84_j0 (s84_j0 g0 i0 l0 o0 t0 n0 e0 m0 r0 g (intL X') (intL L') O' [] nx' (intL E') sn')
  | 0, X, L, E, O, S, nx, sn, W, hn, h => by omega
  | n + 1, X, L, E, O, S, nx, sn, W, hn, h => by
    by_cases hW : W = []
    · subst hW
      have hS := h.tj.empty
      subst hS
      refine ⟨X, L, E, O, nx, sn, h, fun _ h => h, .step fun J => ?_⟩
      unfold st0
      rw [e84_l0]
      simp only [decide_eq_true_eq, decide_eq_false_iff_not]
      simp (disch := first | omega | assumption | (rw [decide_eq_true_eq]; omega) | (rw [decide_eq_false_iff_not]; omega)) only [↓if_pos, ↓if_neg, if_true, if_false, wrap_up, Int.toNat_natCast, Nat.zero_add, wL, List.map_nil, List.length_nil]
      rfl
    · obtain ⟨W0, ⟨v, k⟩, rfl⟩ : ∃ W0 q, W = W0 ++ [q] := ⟨W.dropLast, W.getLast hW, by rw [List.dropLast_concat_getLast]⟩
      have hlen : (wL (W0 ++ [(v, k)])).length = W0.length + 1 := by rw [wL_len]; simp
      have hs : ((W0.length + 1 : Nat) : Int) - 1 = (W0.length : Nat) := by omega
      have cw := h.cw
      have cc := h.cnt
      have b1 := hg.1
      have hv := (h.tj.inS v (h.tj.wS (v, k) (by simp))).1
      simp only [List.length_append, List.length_cons, List.length_nil] at cw hn
      have go : Goes C84 U84 (R84 g0 i0 l0 o0 t0 n0 e0 m0 r0) k84_l0 (st0 g0 i0 l0 o0 t0 n0 e0 m0 r0 g X L E O S nx sn (W0 ++ [(v, k)])) k84_l2 (st2 g0 i0 l0 o0 t0 n0 e0 m0 r0 g X L E O S nx sn (W0 ++ [(v, k)]) W0.length) := .step fun J => by
        unfold st0
        rw [e84_l0]
        simp only [decide_eq_true_eq, decide_eq_false_iff_not]
        rw [hlen, hs, wrap_up (by omega), Int.toNat_natCast]
        simp (disch := first | omega | assumption | (rw [decide_eq_true_eq]; omega) | (rw [decide_eq_false_iff_not]; omega)) only [↓if_pos, ↓if_neg, if_true, if_false, wrap_up, Int.toNat_natCast, Nat.zero_add]
        rfl
      have hkk : ∀ (k0 : Nat) (L0 : List Nat), (g.getD v []).length ≤ k0 → TL g X L0 E O S nx sn (W0 ++ [(v, k0)]) → Goes C84 U84 (R84 g0 i0 l0 o0 t0 n0 e0 m0 r0) k84_l2 (st2 g0 i0 l0 o0 t0 n0 e0 m0 r0 g X L E O S nx sn (W0 ++ [(v, k)]) W0.length) k84_j2 (stj g0 i0 l0 o0 t0 n0 e0 m0 r0 g X L0 E O S nx sn (W0 ++ [(v, k0)]) W0.length) →
          ∃ X' L' E' O' nx' sn', TL g X' L' E' O' [] nx' sn' [] ∧ mono X X' ∧ Goes C84 U84 (R84 g0 i0 l0 o0 t0 n0 e0 m0 r0) k84_l0 (st0 g0 i0 l0 o0 t0 n0 e0 m0 r0 g X L E O S nx sn (W0 ++ [(v, k)])) k84_j0 (s84_j0 g0 i0 l0 o0 t0 n0 e0 m0 r0 g (intL X') (intL L') O' [] nx' (intL E') sn') := fun k0 L0 hk0 h0 g0' => by
        obtain ⟨L1, E1, O1, S1, sn1, a1, a2⟩ := from_pop (g0 := g0) (i0 := i0) (l0 := l0) (o0 := o0) (t0 := t0) (n0 := n0) (e0 := e0) (m0 := m0) (r0 := r0) hg hk0 h0
        obtain ⟨X', L', E', O', nx', sn', c1, c2, c3⟩ := from_out hg n X L1 E1 O1 S1 nx sn1 W0 (by omega) a1
        exact ⟨X', L', E', O', nx', sn', c1, c2, go.trans (g0'.trans (a2.trans c3))⟩
      by_cases hk : k ≤ (g.getD v []).length
      · rcases from_in (g0 := g0) (i0 := i0) (l0 := l0) (o0 := o0) (t0 := t0) (n0 := n0) (e0 := e0) (m0 := m0) (r0 := r0) hg ((g.getD v []).length - k) k X L O S nx (by omega) h with ⟨X2, L2, O2, S2, n2, W2, a1, a2, a3, a4⟩ | ⟨L2, a1, a2⟩
        · obtain ⟨X', L', E', O', nx', sn', c1, c2, c3⟩ := from_out hg n X2 L2 E O2 S2 n2 sn W2 (by omega) a1
          exact ⟨X', L', E', O', nx', sn', c1, fun w hw => c2 w (a3 w hw), go.trans (a4.trans c3)⟩
        · exact hkk _ _ (Nat.le_refl _) a1 a2
      · refine hkk k L (by omega) h (.step fun J => ?_)
        unfold st2 stj
        rw [e84_l2]
        simp only [decide_eq_true_eq, decide_eq_false_iff_not]
        rw [wL_get]
        simp only [Int.toNat_natCast]
        simp (disch := first | omega | assumption | (rw [decide_eq_true_eq]; omega) | (rw [decide_eq_false_iff_not]; omega)) only [↓if_pos, ↓if_neg, if_true, if_false, wrap_up, Int.toNat_natCast, Nat.zero_add]
end
def fromOk (g : List (List Int)) (ix lw : List Int) (on : List Bool) (st : List Int) (nx : Int) (se : List Int) (sn v : Int) : Prop :=
  ∃ (X L E : List Nat) (n s r : Nat), ix = intL X ∧ lw = intL L ∧ se = intL E ∧ st = [] ∧ nx = n ∧ sn = s ∧ v = r ∧ smallRows g ∧ TL g X L E on [] n s [] ∧ r < g.length ∧ X.getD r 0 = 0
noncomputable instance fromOk.dec (g : List (List Int)) (ix lw : List Int) (on : List Bool) (st : List Int) (nx : Int) (se : List Int) (sn v : Int) : Decidable (fromOk g ix lw on st nx se sn v) := Classical.propDecidable _
def FromTo (g : List (List Int)) (ix : List Int) (v : Int) (t : Ev.Tarjan) : Prop :=
  ∃ (X L E : List Nat) (O : List Bool) (n s : Nat), t = ⟨g, intL X, intL L, O, [], n, intL E, s⟩ ∧ TL g X L E O [] n s [] ∧ (∀ X0, ix = intL X0 → mono X0 X) ∧ ∀ r : Nat, v = r → X.getD r 0 ≠ 0
theorem from_ok (g : List (List Int)) (ix lw : List Int) (on : List Bool) (st : List Int) (nx : Int) (se : List Int) (sn v : Int) (h : fromOk g ix lw on st nx se sn v) :
    ∃ t, FromTo g ix v t ∧ CallOk tb Try.prog 84 (a84 g ix lw on st nx se sn v) (.tup []) [.box true 104 t, .dead] := by
  obtain ⟨X, L, E, n, s, r, rfl, rfl, rfl, rfl, rfl, rfl, rfl, hg, h, hr, h0⟩ := h
  obtain ⟨t1, t2, t3, t4⟩ := h.opn hr h0 fun p hp => by cases hp
  obtain ⟨X', L', E', O', nx', sn', c1, c2, c3⟩ := from_out (g0 := g) (i0 := intL X) (l0 := intL L) (o0 := on) (t0 := []) (n0 := (n : Int)) (e0 := intL E) (m0 := (s : Int)) (r0 := (r : Int)) hg _ _ _ _ _ _ _ _ _ (Nat.lt_succ_self _) t1
  refine ⟨_, ⟨X', L', E', O', nx', sn', rfl, c1, fun X0 e => ?_, fun r' e => ?_⟩, fn84 g (intL X) (intL L) on [] n (intL E) s r (Goes.ends (.step fun J => ?_) (c3.ends (.step fun J => e84_j0 J _ _ _ _ _ _ _ _ _ _ _ _ _ _ _ _ _)))⟩
  · have := intL_inj e
    subst this
    exact fun w hw => c2 w (t2 w hw)
  · have : r' = r := by omega
    subst this
    exact c2 _ t3
  · have hop : openOk (intL X) (intL L) on [] n r := openOk_of hg h hr
    rw [e84, if_pos hop, show ((n : Nat) : Int) + 1 = ((n + 1 : Nat) : Int) by omega, Int.toNat_natCast, intL_set, intL_set]
    rfl
noncomputable def fromT (g : List (List Int)) (ix lw : List Int) (on : List Bool) (st : List Int) (nx : Int) (se : List Int) (sn v : Int) : Ev.Tarjan :=
  open Classical in if h : fromOk g ix lw on st nx se sn v then Classical.choose (from_ok g ix lw on st nx se sn v h) else ⟨[], [], [], [], [], 0, [], 0⟩
theorem fromT_spec {g : List (List Int)} {ix lw : List Int} {on : List Bool} {st : List Int} {nx : Int} {se : List Int} {sn v : Int} (h : fromOk g ix lw on st nx se sn v) :
    FromTo g ix v (fromT g ix lw on st nx se sn v) ∧ CallOk tb Try.prog 84 (a84 g ix lw on st nx se sn v) (.tup []) [.box true 104 (fromT g ix lw on st nx se sn v), .dead] := by
  unfold fromT
  rw [dif_pos h]
  exact Classical.choose_spec (from_ok g ix lw on st nx se sn v h)
noncomputable def S84 : List (AV Ty) → T (AV Ty × List (AV Ty))
  | [.box true 104 ⟨g, ix, lw, on, st, nx, se, sn⟩, .v (.int .i64 v)] => .ite (fromOk g ix lw on st nx se sn v) (fromOk.dec g ix lw on st nx se sn v) (.ret (.tup [], [.box true 104 (⟨(fromT g ix lw on st nx se sn v).g, (fromT g ix lw on st nx se sn v).index, (fromT g ix lw on st nx se sn v).low, (fromT g ix lw on st nx se sn v).on_, (fromT g ix lw on st nx se sn v).stack, (fromT g ix lw on st nx se sn v).next_, (fromT g ix lw on st nx se sn v).set_, (fromT g ix lw on st nx se sn v).sets⟩ : Ev.Tarjan), .dead])) .fail
  | _ => .fail
theorem S84_ok (l : List (AV Ty)) (r : AV Ty) (outs : List (AV Ty)) (h : (S84 l).val = some (r, outs)) : CallOk tb Try.prog 84 l r outs := by
  unfold S84 at h
  split at h
  · rcases ite_val h with ⟨e, h⟩ | ⟨_, h⟩
    · cases h; exact (fromT_spec e).2
    · cases h
  · cases h
end Go.Proofs.Ytggibjbcbicpjaa.Ev
