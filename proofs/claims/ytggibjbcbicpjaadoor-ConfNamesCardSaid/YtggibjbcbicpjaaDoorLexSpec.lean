/- What the printed lex.Lines answers, as a walk over the text's bytes: the words that stand between blanks, remarks and ends of lines. -/
import Derived.Test.YtggibjbcbicpjaaDoorLexFirst
namespace Go.Proofs.YtggibjbcbicpjaaDoor.LexSpec
open Go.RowKit Go.Proofs.YtggibjbcbicpjaaDoor.QLexWhere Go.Proofs.YtggibjbcbicpjaaDoorW.PrintWords Go.Proofs.YtggibjbcbicpjaaDoorW.PrintLast Go.Proofs.YtggibjbcbicpjaaDoorW.PrintMore
set_option linter.unusedVariables false
theorem w1 {i : Nat} (h : i ≤ 5000000) : wrap64 ((i : Int) + 1) = ((i + 1 : Nat) : Int) := by unfold wrap64; omega
/-- Where the walk stands: between words, in a word, in a remark. -/
inductive Md where
  | bl
  | wd (f : Nat)
  | nt
structure St where
  dn : List S32
  nw : List S35
  md : Md
def wordAt (s : ByteArray) (f i : Nat) : S35 := ⟨s.extract f i, (f : Int)⟩
def fl (s : ByteArray) (i : Nat) (st : St) : List S35 := match st.md with
  | .wd f => st.nw ++ [wordAt s f i]
  | _ => st.nw
def sh (dn : List S32) (nw : List S35) : List S32 := if nw.length = 0 then dn else dn ++ [⟨nw⟩]
def step (s : ByteArray) (i : Nat) (st : St) : St :=
  if bt s i = 10 then ⟨sh st.dn (fl s i st), [], .bl⟩
  else match st.md with
    | .nt => st
    | .bl => if bt s i = 9 ∨ bt s i = 32 then st else if bt s i = 35 then ⟨st.dn, st.nw, .nt⟩ else ⟨st.dn, st.nw, .wd i⟩
    | .wd f => if bt s i = 9 ∨ bt s i = 32 then ⟨st.dn, st.nw ++ [wordAt s f i], .bl⟩ else if bt s i = 35 then ⟨st.dn, st.nw ++ [wordAt s f i], .nt⟩ else st
def run (s : ByteArray) : Nat → St
  | 0 => ⟨[], [], .bl⟩
  | i + 1 => step s i (run s i)
def lines (s : ByteArray) : List S32 := sh (run s s.size).dn (fl s s.size (run s s.size))
def okc (c : Int) : Prop := c = 9 ∨ c = 10 ∨ (32 ≤ c ∧ c ≤ 126)
theorem sh_len (dn : List S32) (nw : List S35) : (sh dn nw).length ≤ dn.length + nw.length := by
  unfold sh
  split
  · omega
  · simp; omega
def Md.len : Md → Nat
  | .wd _ => 1
  | _ => 0
theorem fl_len (s : ByteArray) (i : Nat) (st : St) : (fl s i st).length = st.nw.length + st.md.len := by
  unfold fl Md.len
  split <;> simp [*]
theorem run_len (s : ByteArray) : ∀ i, (run s i).dn.length + (run s i).nw.length + (run s i).md.len ≤ i
  | 0 => by simp [run, Md.len]
  | i + 1 => by
    have ih := run_len s i
    have h1 := sh_len (run s i).dn (fl s i (run s i))
    have h2 := fl_len s i (run s i)
    rw [run, step]
    split
    · simp [Md.len]; omega
    · split
      · rename_i h; rw [h] at ih; rw [h]; simp [Md.len] at ih ⊢; omega
      · rename_i h; rw [h] at ih; simp [Md.len] at ih
        split
        · rw [h]; simp [Md.len]; omega
        · split <;> simp [Md.len] <;> omega
      · rename_i f h; rw [h] at ih; simp [Md.len] at ih
        split
        · simp [Md.len]; omega
        · split
          · simp [Md.len]; omega
          · rw [h]; simp [Md.len]; omega
/-- A place where a word ends. -/
def stop (s : ByteArray) (i : Nat) : Prop := i = s.size ∨ bt s i = 9 ∨ bt s i = 32 ∨ bt s i = 10 ∨ bt s i = 35
theorem l2_to (s : ByteArray) (hs : s.size ≤ 4194304) (x2 : List S32) (x7 : List S35) : ∀ d i, s.size - i = d → i ≤ s.size → run s i = ⟨x2, x7, .nt⟩ →
    ∃ j, i ≤ j ∧ j ≤ s.size ∧ run s j = ⟨x2, x7, .nt⟩ ∧ (j = s.size ∨ bt s j = 10) ∧ ∀ r, (∃ K, lex_Lines.l1 K s x2 x7 (j : Int) = some r) → ∃ K, lex_Lines.l2 K s x2 x7 (i : Int) = some r := by
  intro d
  induction d with
  | zero =>
    intro i hd hi hr
    refine ⟨i, Nat.le_refl _, hi, hr, .inl (by omega), fun r ⟨K, h⟩ => ⟨K + 1, ?_⟩⟩
    simp only [lex_Lines.l2]
    rw [if_neg (by omega)]
    exact h
  | succ d ih =>
    intro i hd hi hr
    by_cases h10 : bt s i = 10
    · refine ⟨i, Nat.le_refl _, hi, hr, .inr h10, fun r ⟨K, h⟩ => ⟨K + 1, ?_⟩⟩
      simp only [lex_Lines.l2]
      rw [if_pos (by omega), if_pos (by omega), if_pos h10]
      exact h
    · have hr' : run s (i + 1) = ⟨x2, x7, .nt⟩ := by rw [run, hr, step, if_neg h10]
      obtain ⟨j, h1, h2, h3, h4, h5⟩ := ih (i + 1) (by omega) (by omega) hr'
      refine ⟨j, by omega, h2, h3, h4, fun r h => ?_⟩
      obtain ⟨K, hK⟩ := h5 r h
      refine ⟨K + 1, ?_⟩
      simp only [lex_Lines.l2]
      rw [if_pos (by omega), if_pos (by omega), if_neg h10, w1 (by omega)]
      exact hK
theorem l3_to (s : ByteArray) (hs : s.size ≤ 4194304) (x2 : List S32) (x7 : List S35) (f : Nat) (hx : x7.length < 5000000) : ∀ d i, s.size - i = d → i ≤ s.size → f ≤ i → run s i = ⟨x2, x7, .wd f⟩ →
    ∃ j, i ≤ j ∧ j ≤ s.size ∧ run s j = ⟨x2, x7, .wd f⟩ ∧ stop s j ∧ ∀ r, (∃ K, lex_Lines.l1 K s x2 (x7 ++ [wordAt s f j]) (j : Int) = some r) → ∃ K, lex_Lines.l3 K s x2 x7 (i : Int) (f : Int) = some r := by
  intro d
  induction d with
  | zero =>
    intro i hd hi hf hr
    refine ⟨i, Nat.le_refl _, hi, hr, .inl (by omega), fun r ⟨K, h⟩ => ⟨K + 1, ?_⟩⟩
    simp only [lex_Lines.l3]
    rw [if_neg (by omega), if_pos (by omega), if_pos (by omega), if_pos (by omega), if_pos (by omega)]
    exact h
  | succ d ih =>
    intro i hd hi hf hr
    by_cases hst : bt s i = 9 ∨ bt s i = 32 ∨ bt s i = 10 ∨ bt s i = 35
    · refine ⟨i, Nat.le_refl _, hi, hr, .inr hst, fun r ⟨K, h⟩ => ⟨K + 1, ?_⟩⟩
      simp only [lex_Lines.l3]
      rw [if_pos (by omega), if_pos (by omega)]
      have hw : (⟨s.extract ((f : Int)).toNat ((i : Int)).toNat, (f : Int)⟩ : S35) = wordAt s f i := rfl
      by_cases c9 : bt s i = 9
      · rw [if_pos c9, if_pos (by omega), if_pos (by omega), if_pos (by omega), if_pos (by omega)]; exact h
      rw [if_neg c9]
      by_cases c32 : bt s i = 32
      · rw [if_pos c32, if_pos (by omega), if_pos (by omega), if_pos (by omega), if_pos (by omega)]; exact h
      rw [if_neg c32]
      by_cases c10 : bt s i = 10
      · rw [if_pos c10, if_pos (by omega), if_pos (by omega), if_pos (by omega), if_pos (by omega)]; exact h
      rw [if_neg c10, if_pos (by omega), if_pos (by omega), if_pos (by omega), if_pos (by omega), if_pos (by omega)]; exact h
    · have hr' : run s (i + 1) = ⟨x2, x7, .wd f⟩ := by
        rw [run, hr, step, if_neg (by omega)]
        show (if _ then _ else _) = _
        rw [if_neg (by omega), if_neg (by omega)]
      obtain ⟨j, h1, h2, h3, h4, h5⟩ := ih (i + 1) (by omega) (by omega) (by omega) hr'
      refine ⟨j, by omega, h2, h3, h4, fun r h => ?_⟩
      obtain ⟨K, hK⟩ := h5 r h
      refine ⟨K + 1, ?_⟩
      simp only [lex_Lines.l3]
      rw [if_pos (by omega), if_pos (by omega), if_neg (by omega), if_neg (by omega), if_neg (by omega), if_neg (by omega), w1 (by omega)]
      exact hK
/-- What the outer loop's head knows. -/
def Inv (s : ByteArray) (i : Nat) (x2 : List S32) (x7 : List S35) : Prop :=
  run s i = ⟨x2, x7, .bl⟩ ∨ (run s i = ⟨x2, x7, .nt⟩ ∧ (i = s.size ∨ bt s i = 10)) ∨ ∃ f y, run s i = ⟨x2, y, .wd f⟩ ∧ x7 = y ++ [wordAt s f i] ∧ stop s i
theorem Inv.len {s : ByteArray} {i : Nat} {x2 : List S32} {x7 : List S35} (h : Inv s i x2 x7) : x2.length + x7.length ≤ i := by
  have hl := run_len s i
  rcases h with h | ⟨h, _⟩ | ⟨f, y, h, e, _⟩
  · rw [h] at hl; simp [Md.len] at hl; omega
  · rw [h] at hl; simp [Md.len] at hl; omega
  · rw [h] at hl; subst e; simp [Md.len] at hl ⊢; omega
theorem Inv.fl {s : ByteArray} {i : Nat} {x2 : List S32} {x7 : List S35} (h : Inv s i x2 x7) : (run s i).dn = x2 ∧ LexSpec.fl s i (run s i) = x7 := by
  rcases h with h | ⟨h, _⟩ | ⟨f, y, h, e, _⟩
  · rw [h]; exact ⟨rfl, rfl⟩
  · rw [h]; exact ⟨rfl, rfl⟩
  · rw [h, e]; exact ⟨rfl, rfl⟩
theorem l1_to (s : ByteArray) (hs : s.size ≤ 4194304) : ∀ d i x2 x7, s.size - i = d → i ≤ s.size → Inv s i x2 x7 → ∃ K, lex_Lines.l1 K s x2 x7 (i : Int) = some (lines s, 0, 0) := by
  intro d
  induction d using Nat.strongRecOn with
  | _ d ih =>
    intro i x2 x7 hd hi hI
    have hl := hI.len
    by_cases hlt : i < s.size
    · have j2 : (∃ K, lex_Lines.j2 K s x2 x7 (i : Int) (bt s i) (bt s i == 9 || bt s i == 32) = some (lines s, 0, 0)) → ∃ K, lex_Lines.l1 K s x2 x7 (i : Int) = some (lines s, 0, 0) := by
        rintro ⟨K, h⟩
        refine ⟨K + 1, ?_⟩
        simp only [lex_Lines.l1]
        rw [if_pos (by omega), if_pos (by omega)]
        by_cases c9 : bt s i = 9
        · rw [if_pos c9]; simpa [c9] using h
        · rw [if_neg c9]
          have : (bt s i == 9) = false := beq_eq_false_iff_ne.mpr c9
          rw [this, Bool.false_or] at h
          exact h
      apply j2
      by_cases cb : bt s i = 9 ∨ bt s i = 32
      · have hb : (bt s i == 9 || bt s i == 32) = true := by rcases cb with c | c <;> simp [c]
        have hI' : Inv s (i + 1) x2 x7 := by
          left
          have c10 : ¬ bt s i = 10 := by omega
          rcases hI with h | ⟨h, h'⟩ | ⟨f, y, h, e, _⟩
          · rw [run, h, step, if_neg c10]; show (if _ then _ else _) = _; rw [if_pos cb]
          · omega
          · rw [run, h, step, if_neg c10, e]; show (if _ then _ else _) = _; rw [if_pos cb]
        obtain ⟨K, h⟩ := ih (s.size - (i + 1)) (by omega) (i + 1) x2 x7 rfl (by omega) hI'
        refine ⟨K + 1, ?_⟩
        simp only [lex_Lines.j2]
        rw [if_pos hb, w1 (by omega)]
        exact h
      · have hb : ¬ (bt s i == 9 || bt s i == 32) = true := by simp; omega
        by_cases c10 : bt s i = 10
        · have hI' : Inv s (i + 1) (sh x2 x7) [] := by
            left
            obtain ⟨e1, e2⟩ := hI.fl
            rw [run, step, if_pos c10, e1, e2]
          obtain ⟨K, h⟩ := ih (s.size - (i + 1)) (by omega) (i + 1) _ _ rfl (by omega) hI'
          refine ⟨K + 1, ?_⟩
          simp only [lex_Lines.j2]
          rw [if_neg hb, if_pos c10, w1 (by omega)]
          unfold sh at h
          by_cases hz : x7.length = 0
          · rw [if_pos hz] at h
            have : x7 = [] := List.length_eq_zero_iff.1 hz
            subst this
            rw [if_neg (by simp)]
            exact h
          · rw [if_neg hz] at h
            rw [if_pos (by omega), if_pos (by omega)]
            exact h
        · by_cases c35 : bt s i = 35
          · have hr : run s (i + 1) = ⟨x2, x7, .nt⟩ := by
              rcases hI with h | ⟨h, h'⟩ | ⟨f, y, h, e, _⟩
              · rw [run, h, step, if_neg c10]; show (if _ then _ else _) = _; rw [if_neg cb, if_pos c35]
              · omega
              · rw [run, h, step, if_neg c10, e]; show (if _ then _ else _) = _; rw [if_neg cb, if_pos c35]
            obtain ⟨j, h1, h2, h3, h4, h5⟩ := l2_to s hs x2 x7 _ (i + 1) rfl (by omega) hr
            obtain ⟨K, h⟩ := h5 _ (ih (s.size - j) (by omega) j x2 x7 rfl h2 (.inr (.inl ⟨h3, h4⟩)))
            refine ⟨K + 2, ?_⟩
            simp only [lex_Lines.j2]
            rw [if_neg hb, if_neg c10, if_pos c35]
            simp only [lex_Lines.l2]
            rw [if_pos (by omega), if_pos (by omega), if_neg c10, w1 (by omega)]
            exact h
          · have hr : run s i = ⟨x2, x7, .bl⟩ := by
              rcases hI with h | ⟨h, h'⟩ | ⟨f, y, h, e, h'⟩
              · exact h
              · omega
              · rcases h' with h' | h' <;> omega
            have hr' : run s (i + 1) = ⟨x2, x7, .wd i⟩ := by
              rw [run, hr, step, if_neg c10]; show (if _ then _ else _) = _; rw [if_neg cb, if_neg c35]
            obtain ⟨j, h1, h2, h3, h4, h5⟩ := l3_to s hs x2 x7 i (by omega) _ (i + 1) rfl (by omega) (by omega) hr'
            obtain ⟨K, h⟩ := h5 _ (ih (s.size - j) (by omega) j x2 _ rfl h2 (.inr (.inr ⟨i, x7, h3, rfl, h4⟩)))
            refine ⟨K + 2, ?_⟩
            simp only [lex_Lines.j2]
            rw [if_neg hb, if_neg c10, if_neg c35]
            simp only [lex_Lines.l3]
            rw [if_pos (by omega), if_pos (by omega), if_neg (by omega), if_neg (by omega), if_neg c10, if_neg c35, w1 (by omega)]
            exact h
    · have e : i = s.size := by omega
      subst e
      obtain ⟨e1, e2⟩ := hI.fl
      refine ⟨1, ?_⟩
      simp only [lex_Lines.l1]
      rw [if_neg (by omega)]
      unfold lines
      rw [e1, e2]
      unfold sh
      by_cases hz : x7.length = 0
      · rw [if_neg (by omega), if_pos hz]
      · rw [if_pos (by omega), if_pos (by omega), if_neg hz]
theorem l0_to (s : ByteArray) (hs : s.size ≤ 4194304) (n : Nat) (hn : n ≤ s.size) (hok : ∀ j, j < n → okc (bt s j)) (r : List S32 × Int × Int) (h : ∃ K, lex_Lines.l0 K s [] (s.size : Int) (n : Int) = some r) :
    ∀ d i, n - i = d → i ≤ n → ∃ K, lex_Lines.l0 K s [] (s.size : Int) (i : Int) = some r := by
  intro d
  induction d with
  | zero => intro i hd hi; obtain rfl : i = n := by omega
            exact h
  | succ d ih =>
    intro i hd hi
    obtain ⟨K, h'⟩ := ih (i + 1) (by omega) (by omega)
    refine ⟨K + 1, ?_⟩
    simp only [lex_Lines.l0]
    rw [if_pos (by omega), if_pos (by omega), if_pos (by omega), w1 (by omega)]
    have := hok i (by omega)
    unfold okc at this
    by_cases c9 : bt s i = 9
    · rw [if_pos c9]; exact h'
    rw [if_neg c9]
    by_cases c10 : bt s i = 10
    · rw [if_pos c10]; exact h'
    rw [if_neg c10, if_neg (by omega), if_neg (by omega)]
    exact h'
theorem good (s : ByteArray) (hs : s.size ≤ 4194304) (hok : ∀ j, j < s.size → okc (bt s j)) : ∃ K, lex_Lines.f K s = some (lines s, 0, 0) := by
  have h1 := l1_to s hs (s.size - 0) 0 [] [] rfl (Nat.zero_le _) (.inl rfl)
  obtain ⟨K, h⟩ := l0_to s hs s.size (Nat.le_refl _) hok (lines s, 0, 0) (by
    obtain ⟨K, h⟩ := h1
    refine ⟨K + 1, ?_⟩
    simp only [lex_Lines.l0]
    rw [if_neg (by omega)]
    exact h) _ 0 rfl (Nat.zero_le _)
  refine ⟨K, ?_⟩
  unfold lex_Lines.f
  rw [if_neg (by omega)]
  exact h
theorem bad (s : ByteArray) (hs : s.size ≤ 4194304) (n : Nat) (hn : n < s.size) (hok : ∀ j, j < n → okc (bt s j)) (hb : ¬ okc (bt s n)) : ∃ K, lex_Lines.f K s = some ([], (n : Int), 1) := by
  obtain ⟨K, h⟩ := l0_to s hs n (by omega) hok ([], (n : Int), 1) (by
    refine ⟨1, ?_⟩
    simp only [lex_Lines.l0]
    unfold okc at hb
    rw [if_pos (by omega), if_pos (by omega), if_pos (by omega), if_neg (by omega), if_neg (by omega)]
    by_cases c : bt s n < 32
    · rw [if_pos c]
    · rw [if_neg c, if_pos (by omega)]) _ 0 rfl (Nat.zero_le _)
  refine ⟨K, ?_⟩
  unfold lex_Lines.f
  rw [if_neg (by omega)]
  exact h
instance (c : Int) : Decidable (okc c) := by unfold okc; infer_instance
/-- Either every byte may stand, or there is a first one that may not. -/
theorem parts (s : ByteArray) : (∀ j, j < s.size → okc (bt s j)) ∨ ∃ n, n < s.size ∧ (∀ j, j < n → okc (bt s j)) ∧ ¬ okc (bt s n) := by
  have key : ∀ m, m ≤ s.size → (∀ j, j < m → okc (bt s j)) ∨ ∃ n, n < s.size ∧ (∀ j, j < n → okc (bt s j)) ∧ ¬ okc (bt s n) := by
    intro m
    induction m with
    | zero => intro _; left; intro j h; omega
    | succ m ih =>
      intro hm
      rcases ih (by omega) with h | h
      · by_cases c : okc (bt s m)
        · left; intro j hj
          by_cases e : j = m
          · subst e; exact c
          · exact h j (by omega)
        · right; exact ⟨m, by omega, h, c⟩
      · exact .inr h
  exact key s.size (Nat.le_refl _)
theorem first_is : ∃ K, plnlaw7_first.f K = some true := ⟨80, by kernel_rfl⟩
end Go.Proofs.YtggibjbcbicpjaaDoor.LexSpec
