/- plnref1.Lines answers what the walk of LexSpec tells. -/
import Derived.Test.YtggibjbcbicpjaaDoorLexSpec
import Derived.Test.YtggibjbcbicpjaaDoorQLexTellsx4
namespace Go.Proofs.YtggibjbcbicpjaaDoor.LexSpec
open Go.RowKit Go.Proofs.YtggibjbcbicpjaaDoor.QLexWhere Go.Proofs.YtggibjbcbicpjaaDoor.QLexTells Go.Proofs.YtggibjbcbicpjaaDoorW.PrintWords Go.Proofs.YtggibjbcbicpjaaDoorW.PrintLast Go.Proofs.YtggibjbcbicpjaaDoorW.PrintMore
set_option linter.unusedVariables false
def cv (w : S35) : S36 := ⟨w.f0, w.f1⟩
def cl (l : S32) : List S36 := l.f0.map cv
def x9 : Md → Int
  | .wd f => f
  | _ => -1
def nt : Md → Bool
  | .nt => true
  | _ => false
abbrev Res := List (List S36) × Int × Int
theorem map_sh (dn : List S32) (nw : List S35) : (sh dn nw).map cl = if (nw.map cv).length = 0 then dn.map cl else dn.map cl ++ [nw.map cv] := by
  unfold sh
  by_cases h : nw.length = 0
  · rw [if_pos h, if_pos (by simpa using h)]
  · rw [if_neg h, if_neg (by simpa using h)]
    simp [cl]
theorem j4_end (s : ByteArray) (X7 : List (List S36)) (X8 : List S36) (x10 : Bool) (i : Nat) (hi : i ≤ 4194304) (hl : X7.length ≤ i) (r : Res)
    (h : ∃ K, plnref1_Lines.l1 K s (if X8.length = 0 then X7 else X7 ++ [X8]) [] (-1) false ((i + 1 : Nat) : Int) = some r) :
    ∃ K, plnref1_Lines.j4 K s X7 X8 (-1) x10 (i : Int) true = some r := by
  obtain ⟨K, h⟩ := h
  refine ⟨K + 1, ?_⟩
  rw [plnref1_Lines.j4, if_pos rfl, w1 (by omega)]
  by_cases hz : X8.length = 0
  · rw [if_pos hz] at h
    rw [if_neg (by omega)]; exact h
  · rw [if_neg hz] at h
    rw [if_pos (by omega), if_pos (by omega)]; exact h
theorem j4_nt (s : ByteArray) (X7 : List (List S36)) (X8 : List S36) (y : Int) (i : Nat) (hi : i ≤ 4194304) (r : Res)
    (h : ∃ K, plnref1_Lines.l1 K s X7 X8 y true ((i + 1 : Nat) : Int) = some r) :
    ∃ K, plnref1_Lines.j4 K s X7 X8 y true (i : Int) false = some r := by
  obtain ⟨K, h⟩ := h
  refine ⟨K + 1, ?_⟩
  rw [plnref1_Lines.j4, if_neg (by decide), if_pos rfl, w1 (by omega)]
  exact h
theorem j4_go (s : ByteArray) (X7 : List (List S36)) (X8 : List S36) (y : Int) (i : Nat) (hi : i < s.size) (hs : s.size ≤ 4194304) (r : Res)
    (h : ∃ K, plnref1_Lines.l1 K s X7 X8 (if bt s i = 35 then y else if y < 0 then (if bt s i = 9 then y else if bt s i = 32 then y else (i : Int)) else y) (bt s i == 35) ((i + 1 : Nat) : Int) = some r) :
    ∃ K, plnref1_Lines.j4 K s X7 X8 y false (i : Int) false = some r := by
  obtain ⟨K, h⟩ := h
  refine ⟨K + 1, ?_⟩
  rw [plnref1_Lines.j4, if_neg (by decide), if_neg (by decide), w1 (by omega), if_pos (by omega), if_pos (by omega)]
  by_cases c35 : bt s i = 35
  · rw [if_pos c35] at h ⊢; exact h
  · rw [if_neg c35] at h ⊢
    by_cases cy : y < 0
    · rw [if_pos cy] at h ⊢
      by_cases c9 : bt s i = 9
      · rw [if_pos c9] at h ⊢; exact h
      · rw [if_neg c9] at h ⊢
        by_cases c32 : bt s i = 32
        · rw [if_pos c32] at h ⊢; exact h
        · rw [if_neg c32] at h ⊢; exact h
    · rw [if_neg cy] at h ⊢; exact h
theorem j3_yes (s : ByteArray) (X7 : List (List S36)) (X8 : List S36) (f i : Nat) (x10 e : Bool) (hf : f ≤ i) (hi : i ≤ s.size) (hs : s.size ≤ 4194304) (hl : X8.length ≤ i) (r : Res)
    (h : ∃ K, plnref1_Lines.j4 K s X7 (X8 ++ [cv (wordAt s f i)]) (-1) x10 (i : Int) e = some r) :
    ∃ K, plnref1_Lines.j3 K s X7 X8 (f : Int) x10 (i : Int) e true = some r := by
  obtain ⟨K, h⟩ := h
  refine ⟨K + 1, ?_⟩
  rw [plnref1_Lines.j3, if_pos rfl, if_pos (by omega), if_pos (by omega), if_pos (by omega), if_pos (by omega)]
  exact h
theorem j3_no (s : ByteArray) (X7 : List (List S36)) (X8 : List S36) (y : Int) (i : Nat) (x10 e : Bool) (r : Res)
    (h : ∃ K, plnref1_Lines.j4 K s X7 X8 y x10 (i : Int) e = some r) :
    ∃ K, plnref1_Lines.j3 K s X7 X8 y x10 (i : Int) e false = some r := by
  obtain ⟨K, h⟩ := h
  refine ⟨K + 1, ?_⟩
  rw [plnref1_Lines.j3, if_neg (by decide)]
  exact h
theorem j2_neg (s : ByteArray) (X7 : List (List S36)) (X8 : List S36) (i : Nat) (x10 e : Bool) (r : Res)
    (h : ∃ K, plnref1_Lines.j3 K s X7 X8 (-1) x10 (i : Int) e false = some r) :
    ∃ K, plnref1_Lines.j2 K s X7 X8 (-1) x10 (i : Int) e = some r := by
  obtain ⟨K, h⟩ := h
  refine ⟨K + 1, ?_⟩
  rw [plnref1_Lines.j2, if_neg (by omega)]
  exact h
theorem j2_end (s : ByteArray) (X7 : List (List S36)) (X8 : List S36) (f i : Nat) (x10 : Bool) (r : Res)
    (h : ∃ K, plnref1_Lines.j3 K s X7 X8 (f : Int) x10 (i : Int) true true = some r) :
    ∃ K, plnref1_Lines.j2 K s X7 X8 (f : Int) x10 (i : Int) true = some r := by
  obtain ⟨K, h⟩ := h
  refine ⟨K + 1, ?_⟩
  rw [plnref1_Lines.j2, if_pos (by omega), if_pos rfl]
  exact h
theorem j2_in (s : ByteArray) (X7 : List (List S36)) (X8 : List S36) (f i : Nat) (x10 : Bool) (hi : i < s.size) (r : Res)
    (h : ∃ K, plnref1_Lines.j3 K s X7 X8 (f : Int) x10 (i : Int) false (decide (bt s i = 9 ∨ bt s i = 32 ∨ bt s i = 35)) = some r) :
    ∃ K, plnref1_Lines.j2 K s X7 X8 (f : Int) x10 (i : Int) false = some r := by
  obtain ⟨K, h⟩ := h
  refine ⟨K + 1, ?_⟩
  rw [plnref1_Lines.j2, if_pos (by omega), if_neg (by decide), if_pos (by omega), if_pos (by omega)]
  by_cases c9 : bt s i = 9
  · rw [if_pos c9]; rw [decide_eq_true (.inl c9)] at h; exact h
  rw [if_neg c9]
  by_cases c32 : bt s i = 32
  · rw [if_pos c32]; rw [decide_eq_true (.inr (.inl c32))] at h; exact h
  rw [if_neg c32]
  by_cases c35 : bt s i = 35
  · rw [beq_iff_eq.mpr c35]; rw [decide_eq_true (.inr (.inr c35))] at h; exact h
  · rw [beq_eq_false_iff_ne.mpr c35]; rw [decide_eq_false (by omega)] at h; exact h
theorem l1_in (s : ByteArray) (X7 : List (List S36)) (X8 : List S36) (y : Int) (i : Nat) (x10 : Bool) (hi : i < s.size) (r : Res)
    (h : ∃ K, plnref1_Lines.j2 K s X7 X8 y x10 (i : Int) (bt s i == 10) = some r) :
    ∃ K, plnref1_Lines.l1 K s X7 X8 y x10 (i : Int) = some r := by
  obtain ⟨K, h⟩ := h
  refine ⟨K + 1, ?_⟩
  rw [plnref1_Lines.l1, if_pos (by omega), if_neg (by omega), if_pos (by omega), if_pos (by omega)]
  exact h
theorem l1_end (s : ByteArray) (X7 : List (List S36)) (X8 : List S36) (y : Int) (x10 : Bool) (r : Res)
    (h : ∃ K, plnref1_Lines.j2 K s X7 X8 y x10 (s.size : Int) true = some r) :
    ∃ K, plnref1_Lines.l1 K s X7 X8 y x10 (s.size : Int) = some r := by
  obtain ⟨K, h⟩ := h
  refine ⟨K + 1, ?_⟩
  rw [plnref1_Lines.l1, if_pos (by omega), if_pos rfl]
  exact h
def L1 (s : ByteArray) (i : Nat) (st : St) (r : Res) : Prop := ∃ K, plnref1_Lines.l1 K s (st.dn.map cl) (st.nw.map cv) (x9 st.md) (nt st.md) (i : Int) = some r
/-- The end of a line, or of the text. -/
theorem j2_line (s : ByteArray) (i : Nat) (hi : i ≤ s.size) (hs : s.size ≤ 4194304) (st : St) (hl : st.dn.length + st.nw.length ≤ i) (hf : ∀ f, st.md = .wd f → f ≤ i) (r : Res)
    (h : L1 s (i + 1) ⟨sh st.dn (fl s i st), [], .bl⟩ r) : ∃ K, plnref1_Lines.j2 K s (st.dn.map cl) (st.nw.map cv) (x9 st.md) (nt st.md) (i : Int) true = some r := by
  unfold L1 at h
  dsimp only at h
  rw [map_sh] at h
  obtain ⟨dn, nw, md⟩ := st
  dsimp only at hl hf h ⊢
  have h1 : (dn.map cl).length ≤ i := by rw [List.length_map]; omega
  have h2 : (nw.map cv).length ≤ i := by rw [List.length_map]; omega
  cases md with
  | bl => exact j2_neg _ _ _ _ _ _ _ (j3_no _ _ _ _ _ _ _ _ (j4_end _ _ _ _ _ (by omega) h1 _ h))
  | nt => exact j2_neg _ _ _ _ _ _ _ (j3_no _ _ _ _ _ _ _ _ (j4_end _ _ _ _ _ (by omega) h1 _ h))
  | wd f =>
    refine j2_end _ _ _ _ _ _ _ (j3_yes _ _ _ _ _ _ _ (hf f rfl) hi hs h2 _ (j4_end _ _ _ _ _ (by omega) h1 _ ?_))
    have e : fl s i ⟨dn, nw, .wd f⟩ = nw ++ [wordAt s f i] := rfl
    rw [e, List.map_append] at h
    exact h
theorem l1_step (s : ByteArray) (i : Nat) (hi : i < s.size) (hs : s.size ≤ 4194304) (st : St) (hl : st.dn.length + st.nw.length ≤ i) (hf : ∀ f, st.md = .wd f → f ≤ i) (r : Res)
    (h : L1 s (i + 1) (step s i st) r) : L1 s i st r := by
  refine l1_in _ _ _ _ _ _ hi _ ?_
  unfold step at h
  by_cases c10 : bt s i = 10
  · rw [if_pos c10] at h
    rw [beq_iff_eq.mpr c10]
    exact j2_line s i (by omega) hs st hl hf r h
  · rw [if_neg c10] at h
    rw [beq_eq_false_iff_ne.mpr c10]
    obtain ⟨dn, nw, md⟩ := st
    dsimp only at hl hf h ⊢
    have h2 : (nw.map cv).length ≤ i := by rw [List.length_map]; omega
    cases md with
    | nt => exact j2_neg _ _ _ _ _ _ _ (j3_no _ _ _ _ _ _ _ _ (j4_nt _ _ _ _ _ (by omega) _ h))
    | bl =>
      refine j2_neg _ _ _ _ _ _ _ (j3_no _ _ _ _ _ _ _ _ (j4_go _ _ _ _ _ hi hs _ ?_))
      dsimp only at h
      by_cases cb : bt s i = 9 ∨ bt s i = 32
      · rw [if_pos cb] at h
        rw [if_neg (by omega), if_pos (by decide)]
        have c35 : (bt s i == 35) = false := beq_eq_false_iff_ne.mpr (by omega)
        rw [c35]
        rcases cb with c | c
        · rw [if_pos c]; exact h
        · rw [if_neg (by omega), if_pos c]; exact h
      · rw [if_neg cb] at h
        by_cases c35 : bt s i = 35
        · rw [if_pos c35] at h
          rw [if_pos c35, beq_iff_eq.mpr c35]
          exact h
        · rw [if_neg c35] at h
          rw [if_neg c35, if_pos (by decide), if_neg (by omega), if_neg (by omega), beq_eq_false_iff_ne.mpr c35]
          exact h
    | wd f =>
      refine j2_in _ _ _ _ _ _ hi _ ?_
      dsimp only at h
      by_cases cb : bt s i = 9 ∨ bt s i = 32
      · rw [if_pos cb] at h
        rw [decide_eq_true (by omega)]
        refine j3_yes _ _ _ _ _ _ _ (hf f rfl) (by omega) hs h2 _ (j4_go _ _ _ _ _ hi hs _ ?_)
        rw [if_neg (by omega), if_pos (by decide)]
        have c35 : (bt s i == 35) = false := beq_eq_false_iff_ne.mpr (by omega)
        rw [c35]
        unfold L1 at h
        rw [List.map_append] at h
        rcases cb with c | c
        · rw [if_pos c]; exact h
        · rw [if_neg (by omega), if_pos c]; exact h
      · rw [if_neg cb] at h
        by_cases c35 : bt s i = 35
        · rw [if_pos c35] at h
          rw [decide_eq_true (by omega)]
          refine j3_yes _ _ _ _ _ _ _ (hf f rfl) (by omega) hs h2 _ (j4_go _ _ _ _ _ hi hs _ ?_)
          unfold L1 at h
          rw [List.map_append] at h
          rw [if_pos c35, beq_iff_eq.mpr c35]
          exact h
        · rw [if_neg c35] at h
          rw [decide_eq_false (by omega)]
          refine j3_no _ _ _ _ _ _ _ _ (j4_go _ _ _ _ _ hi hs _ ?_)
          have e : ¬ (f : Int) < 0 := by omega
          rw [if_neg c35, if_neg e, beq_eq_false_iff_ne.mpr c35]
          exact h
theorem run_wd (s : ByteArray) : ∀ i f, (run s i).md = .wd f → f ≤ i
  | 0, f, h => by cases h
  | i + 1, f, h => by
    have ih := run_wd s i
    rw [run, step] at h
    split at h
    · cases h
    · split at h
      · rename_i e; rw [e] at h; cases h
      · rename_i e
        split at h
        · rw [e] at h; cases h
        · split at h
          · cases h
          · injection h with h; omega
      · rename_i g e
        split at h
        · cases h
        · split at h
          · cases h
          · have := ih f h; omega
theorem ref_l1 (s : ByteArray) (hs : s.size ≤ 4194304) : ∀ d i, s.size - i = d → i ≤ s.size → L1 s i (run s i) ((lines s).map cl, 0, 0) := by
  intro d
  induction d with
  | zero =>
    intro i hd hi
    obtain rfl : i = s.size := by omega
    have hl := run_len s s.size
    refine l1_end _ _ _ _ _ _ (j2_line s s.size (Nat.le_refl _) hs _ (by omega) (run_wd s s.size) _ ⟨1, ?_⟩)
    rw [plnref1_Lines.l1, if_neg (by omega)]
    rfl
  | succ d ih =>
    intro i hd hi
    have hl := run_len s i
    exact l1_step s i (by omega) hs _ (by omega) (run_wd s i) _ (ih (i + 1) (by omega) (by omega))
theorem ref_l0 (s : ByteArray) (hs : s.size ≤ 4194304) (n : Nat) (hn : n ≤ s.size) (hok : ∀ j, j < n → okc (bt s j)) (r : Res) (h : ∃ K, plnref1_Lines.l0 K s (n : Int) = some r) :
    ∀ d i, n - i = d → i ≤ n → ∃ K, plnref1_Lines.l0 K s (i : Int) = some r := by
  intro d
  induction d with
  | zero => intro i hd hi; obtain rfl : i = n := by omega
            exact h
  | succ d ih =>
    intro i hd hi
    obtain ⟨K, h'⟩ := ih (i + 1) (by omega) (by omega)
    refine ⟨K + 1, ?_⟩
    rw [plnref1_Lines.l0, if_pos (by omega), if_pos (by omega), w1 (by omega)]
    have := hok i (by omega)
    unfold okc at this
    by_cases c9 : bt s i = 9
    · rw [if_pos c9]; exact h'
    rw [if_neg c9]
    by_cases c10 : bt s i = 10
    · rw [if_pos c10]; exact h'
    rw [if_neg c10, if_neg (by omega), if_neg (by omega)]
    exact h'
theorem ref_good (s : ByteArray) (hs : s.size ≤ 4194304) (hok : ∀ j, j < s.size → okc (bt s j)) : ∃ K, plnref1_Lines.f K s = some ((lines s).map cl, 0, 0) := by
  obtain ⟨K, h⟩ := ref_l0 s hs s.size (Nat.le_refl _) hok ((lines s).map cl, 0, 0) (by
    obtain ⟨K, h⟩ := ref_l1 s hs (s.size - 0) 0 rfl (Nat.zero_le _)
    refine ⟨K + 1, ?_⟩
    rw [plnref1_Lines.l0, if_neg (by omega)]
    exact h) _ 0 rfl (Nat.zero_le _)
  refine ⟨K, ?_⟩
  unfold plnref1_Lines.f
  rw [if_neg (by omega)]
  exact h
theorem ref_bad (s : ByteArray) (hs : s.size ≤ 4194304) (n : Nat) (hn : n < s.size) (hok : ∀ j, j < n → okc (bt s j)) (hb : ¬ okc (bt s n)) : ∃ K, plnref1_Lines.f K s = some ([], (n : Int), 1) := by
  obtain ⟨K, h⟩ := ref_l0 s hs n (by omega) hok ([], (n : Int), 1) (by
    refine ⟨1, ?_⟩
    unfold okc at hb
    rw [plnref1_Lines.l0, if_pos (by omega), if_pos (by omega), if_neg (by omega), if_neg (by omega)]
    by_cases c : bt s n < 32
    · rw [if_pos c]
    · rw [if_neg c, if_pos (by omega)]) _ 0 rfl (Nat.zero_le _)
  refine ⟨K, ?_⟩
  unfold plnref1_Lines.f
  rw [if_neg (by omega)]
  exact h
/-- lex.Lines and plnref1.Lines answer alike. -/
theorem both (s : ByteArray) (hs : s.size ≤ 4194304) : ∃ L a b, (∃ K, lex_Lines.f K s = some (L, a, b)) ∧ (∃ K, plnref1_Lines.f K s = some (L.map cl, a, b)) ∧ (L.length ≤ s.size) := by
  have hlen : (lines s).length ≤ s.size := by
    have h1 := run_len s s.size
    have h2 := sh_len (run s s.size).dn (fl s s.size (run s s.size))
    have h3 := fl_len s s.size (run s s.size)
    unfold lines
    omega
  rcases parts s with h | ⟨n, hn, hok, hb⟩
  · exact ⟨_, _, _, good s hs h, ref_good s hs h, hlen⟩
  · exact ⟨_, _, _, bad s hs n hn hok hb, ref_bad s hs n hn hok hb, Nat.zero_le _⟩
end Go.Proofs.YtggibjbcbicpjaaDoor.LexSpec
