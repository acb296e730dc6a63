/- LexTells's pure law: word by word the two tellings of a text are one. -/
import Derived.Test.YtggibjbcbicpjaaDoorRLinesP
import Derived.Test.YtggibjbcbicpjaaDoorQLexTellsx9
namespace Go.Proofs.YtggibjbcbicpjaaDoor.LexSpec
open Go.RowKit Go.Proofs.YtggibjbcbicpjaaDoor.QLexWhere Go.Proofs.YtggibjbcbicpjaaDoor.QLexTells Go.Proofs.YtggibjbcbicpjaaDoorW.PrintWords Go.Proofs.YtggibjbcbicpjaaDoorW.PrintLast Go.Proofs.YtggibjbcbicpjaaDoorW.PrintMore
set_option linter.unusedVariables false
theorem run_each (s : ByteArray) : ∀ i, ∀ x ∈ (run s i).dn, x.f0.length ≤ i
  | 0 => by simp [run]
  | i + 1 => by
    have ih := run_each s i
    have hl := run_len s i
    have hf := fl_len s i (run s i)
    have ih' : ∀ x ∈ (run s i).dn, x.f0.length ≤ i + 1 := fun x hx => by have := ih x hx; omega
    rw [run, LexSpec.step]
    split
    · intro x hx
      unfold sh at hx
      split at hx
      · exact ih' x hx
      · rcases List.mem_append.1 hx with hx | hx
        · exact ih' x hx
        · simp at hx; subst hx; simp; omega
    · split <;> (try split) <;> (try split) <;> exact ih'
theorem lines_each (s : ByteArray) : ∀ x ∈ lines s, x.f0.length ≤ s.size := by
  intro x hx
  have hl := run_len s s.size
  have hf := fl_len s s.size (run s s.size)
  unfold lines sh at hx
  split at hx
  · exact run_each s _ x hx
  · rcases List.mem_append.1 hx with hx | hx
    · exact run_each s _ x hx
    · simp at hx; subst hx; simp; omega
theorem lines_len (s : ByteArray) : (lines s).length ≤ s.size := by
  have hl := run_len s s.size
  have hf := fl_len s s.size (run s s.size)
  have := sh_len (run s s.size).dn (fl s s.size (run s s.size))
  unfold lines
  omega
theorem rd_cl (L : List S32) (i : Int) : rd_L6 (L.map cl) i = cl (rd_T32 L i) := by
  unfold rd_L6 rd_T32
  rw [List.getD_eq_getElem?_getD, List.getD_eq_getElem?_getD, List.getElem?_map]
  cases L[i.toNat]? <;> rfl
theorem rd_cv (l : List S35) (i : Int) : rd_T36 (l.map cv) i = cv (rd_T35 l i) := by
  unfold rd_T36 rd_T35
  rw [List.getD_eq_getElem?_getD, List.getD_eq_getElem?_getD, List.getElem?_map]
  cases l[i.toNat]? <;> rfl
theorem words_to (L : List S32) (i : Nat) (hi : i < L.length) (hm : (rd_T32 L (i : Int)).f0.length ≤ 5000000)
    (h : ∃ K, plnlaw7_LexTells.l0 K L (L.map cl) (wrap64 ((i : Int) + 1)) = some true) : ∀ d j, (rd_T32 L (i : Int)).f0.length - j = d → j ≤ (rd_T32 L (i : Int)).f0.length →
    ∃ K, plnlaw7_LexTells.l1 K L (L.map cl) (i : Int) (j : Int) = some true := by
  have hlen : (rd_L6 (L.map cl) (i : Int)).length = (rd_T32 L (i : Int)).f0.length := by rw [rd_cl]; simp [cl]
  have hM : (L.map cl).length = L.length := List.length_map ..
  intro d
  induction d with
  | zero =>
    intro j hd hj
    obtain ⟨K, h⟩ := h
    refine ⟨K + 1, ?_⟩
    rw [plnlaw7_LexTells.l1, if_pos (by omega), if_pos (by omega), if_neg (by omega)]
    exact h
  | succ d ih =>
    intro j hd hj
    obtain ⟨K, hK⟩ := ih (j + 1) (by omega) (by omega)
    refine ⟨K + 1, ?_⟩
    have e : rd_T36 (rd_L6 (L.map cl) (i : Int)) (j : Int) = cv (rd_T35 (rd_T32 L (i : Int)).f0 (j : Int)) := by rw [rd_cl]; exact rd_cv _ _
    have e0 : (rd_T36 (rd_L6 (L.map cl) (i : Int)) (j : Int)).f0 = (rd_T35 (rd_T32 L (i : Int)).f0 (j : Int)).f0 := by rw [e]; rfl
    have e1 : (rd_T36 (rd_L6 (L.map cl) (i : Int)) (j : Int)).f1 = (rd_T35 (rd_T32 L (i : Int)).f0 (j : Int)).f1 := by rw [e]; rfl
    rw [plnlaw7_LexTells.l1, if_pos (by omega), if_pos (by omega), if_pos (by omega), if_pos (by omega), if_pos (by omega), if_pos (by omega), e0, e1, if_pos rfl, if_pos rfl, w1 (by omega)]
    exact hK
theorem rd_mem {L : List S32} {i : Nat} (hi : i < L.length) : rd_T32 L (i : Int) ∈ L := by
  unfold rd_T32
  rw [Int.toNat_natCast, List.getD_eq_getElem?_getD, List.getElem?_eq_getElem hi]
  exact List.getElem_mem hi
theorem all_to (L : List S32) (hL : L.length ≤ 5000000) (hm : ∀ x ∈ L, x.f0.length ≤ 5000000) : ∀ d i, L.length - i = d → i ≤ L.length → ∃ K, plnlaw7_LexTells.l0 K L (L.map cl) (i : Int) = some true := by
  have hM : (L.map cl).length = L.length := List.length_map ..
  intro d
  induction d with
  | zero =>
    intro i hd hi
    refine ⟨1, ?_⟩
    rw [plnlaw7_LexTells.l0, if_neg (by omega)]
  | succ d ih =>
    intro i hd hi
    have hlen : (rd_L6 (L.map cl) (i : Int)).length = (rd_T32 L (i : Int)).f0.length := by rw [rd_cl]; simp [cl]
    have h := ih (i + 1) (by omega) (by omega)
    rw [← w1 (by omega)] at h
    obtain ⟨K, hK⟩ := words_to L i (by omega) (hm _ (rd_mem (by omega))) h _ 0 rfl (Nat.zero_le _)
    refine ⟨K + 1, ?_⟩
    rw [plnlaw7_LexTells.l0, if_pos (by omega), if_pos (by omega), if_pos (by omega), if_pos (by omega)]
    exact hK
theorem both_more (s : ByteArray) (hs : s.size ≤ 4194304) : ∃ L a b, (∃ K, lex_Lines.f K s = some (L, a, b)) ∧ (∃ K, plnref1_Lines.f K s = some (L.map cl, a, b)) ∧ L.length ≤ 5000000 ∧ ∀ x ∈ L, x.f0.length ≤ 5000000 := by
  rcases parts s with h | ⟨n, hn, hok, hb⟩
  · exact ⟨_, _, _, good s hs h, ref_good s hs h, Nat.le_trans (lines_len s) (by omega), fun x hx => Nat.le_trans (lines_each s x hx) (by omega)⟩
  · exact ⟨_, _, _, bad s hs n hn hok hb, ref_bad s hs n hn hok hb, Nat.zero_le _, fun x hx => by cases hx⟩
theorem tells (a0 a1 : ByteArray) (a2 a3 : Int) : ∃ K, plnlaw7_LexTells.f K a0 a1 a2 a3 = some true := by
  unfold plnlaw7_LexTells.f
  have hF : Ev (fun k => plnlaw7_first.f k) true := by obtain ⟨K, h⟩ := first_is; exact .of plnlaw7_first.mono h
  refine Ev.rounds (Ev.bind hF ?_)
  simp only [if_true]
  have yes : Ev (fun k => plnlaw7_LexTells.j0 k a0 true) true := by
    obtain ⟨K, h⟩ := first_is
    refine Ev.of (fun k => (plnlaw7_LexTells.mono_l k).1 _ _) (k := K + 1) ?_
    rw [plnlaw7_LexTells.j0, if_pos rfl, h]
    rfl
  by_cases hsz : (a0.size : Int) > 1000
  · simp only [if_pos hsz]
    exact yes
  simp only [if_neg hsz]
  by_cases h100 : (a1.size : Int) > 100
  · rw [decide_eq_true h100]
    exact yes
  rw [decide_eq_false h100]
  obtain ⟨L, a, b, ⟨K1, h1⟩, ⟨K2, h2⟩, hL, hm⟩ := both_more a0 (by omega)
  have hM : (L.map cl).length = L.length := List.length_map ..
  obtain ⟨K3, h3⟩ := all_to L hL hm _ 0 rfl (Nat.zero_le _)
  have hj1 : Ev (fun k => plnlaw7_LexTells.j1 k L (L.map cl) false) true := by
    refine Ev.of (fun k => (plnlaw7_LexTells.mono_l k).2.1 _ _ _) (k := K3 + 1) ?_
    rw [plnlaw7_LexTells.j1, if_neg (by decide)]
    exact h3
  have key : Ev (fun k => (lex_Lines.f k a0).bind fun bt192 => ((plnref1_Lines.f k a0).bind fun bt197 => (if bt192.2.1 = bt197.2.1 then (if bt192.2.2 = bt197.2.2 then (plnlaw7_LexTells.j1 k bt192.1 bt197.1 ((bt192.1.length : Int) != (bt197.1.length : Int))) else (plnlaw7_LexTells.j1 k bt192.1 bt197.1 true)) else (plnlaw7_LexTells.j1 k bt192.1 bt197.1 true)))) true := by
    refine Ev.bind (Ev.of (lex_Lines.mono a0) h1) (Ev.bind (Ev.of (plnref1_Lines.mono a0) h2) ?_)
    simp only [if_true, hM, bne_self_eq_false]
    exact hj1
  obtain ⟨K, h⟩ := Ev.rounds key
  refine Ev.of (fun k => (plnlaw7_LexTells.mono_l k).1 _ _) (k := K + 1) ?_
  rw [plnlaw7_LexTells.j0, if_neg (by decide)]
  exact h
end Go.Proofs.YtggibjbcbicpjaaDoor.LexSpec
