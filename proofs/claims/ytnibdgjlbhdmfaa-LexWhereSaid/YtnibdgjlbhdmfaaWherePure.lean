/- It proves, for every text, that each word of lex.Lines stands in the text where it says, one behind the other, with nothing but blanks, remarks and ends of lines between. No condition. -/
import Derived.Test.YtnibdgjlbhdmfaaLexSpec
import Derived.Test.YtnibdgjlbhdmfaaQLexWherex4
namespace Go.Proofs.Ytnibdgjlbhdmfaa.WherePure
open Go.RowKit Go.Proofs.Ytnibdgjlbhdmfaa.QLexWhere Go.Proofs.Ytnibdgjlbhdmfaa.LexSpec Go.Proofs.YtnibdgjlbhdmfaaW.PrintWords Go.Proofs.YtnibdgjlbhdmfaaW.PrintLast Go.Proofs.YtnibdgjlbhdmfaaW.PrintMore
set_option linter.unusedVariables false
/-- From i to j stand only blanks, remarks, c ends of lines; n: j is in a remark. -/
inductive Gap (s : ByteArray) (i : Nat) : Nat → Bool → Nat → Prop
  | nil : Gap s i i false 0
  | nl {j n c} : Gap s i j n c → bt s j = 10 → Gap s i (j + 1) false (c + 1)
  | hash {j n c} : Gap s i j n c → bt s j = 35 → Gap s i (j + 1) true c
  | note {j c} : Gap s i j true c → bt s j ≠ 10 → Gap s i (j + 1) true c
  | blank {j c} : Gap s i j false c → bt s j = 9 ∨ bt s j = 32 → Gap s i (j + 1) false c
theorem Gap.le {s : ByteArray} {i j : Nat} {n : Bool} {c : Nat} (h : Gap s i j n c) : i ≤ j ∧ c ≤ j - i := by
  induction h <;> omega
def W (s : ByteArray) (w : S51) (a e : Nat) : Prop := w = wordAt s a e ∧ a < e ∧ e ≤ s.size
inductive Ln (s : ByteArray) (i : Nat) (e0 : Nat) : List S51 → Nat → Prop
  | one {w a e c} : Gap s e0 a false c → (0 < i → 0 < c) → W s w a e → Ln s i e0 [w] e
  | snoc {ws e1 w a e} : Ln s i e0 ws e1 → Gap s e1 a false 0 → W s w a e → Ln s i e0 (ws ++ [w]) e
inductive Ls (s : ByteArray) : List S49 → Nat → Prop
  | nil : Ls s [] 0
  | snoc {x2 e0 ws e} : Ls s x2 e0 → Ln s x2.length e0 ws e → Ls s (x2 ++ [⟨ws⟩]) e
theorem Ln.ne {s : ByteArray} {i e0 : Nat} {ws : List S51} {e : Nat} (h : Ln s i e0 ws e) : ws.length ≠ 0 := by cases h <;> simp
/-- What is known of the walk's lines and words. -/
def At (s : ByteArray) (i : Nat) (x2 : List S49) (x7 : List S51) (n : Bool) : Prop :=
  (x7 = [] ∧ ∃ e c, Ls s x2 e ∧ Gap s e i n c ∧ (x2.length ≠ 0 → 0 < c)) ∨ (∃ e0 e, Ls s x2 e0 ∧ Ln s x2.length e0 x7 e ∧ Gap s e i n 0)
theorem At.word {s : ByteArray} {f i : Nat} {x2 : List S49} {x7 : List S51} (h : At s f x2 x7 false) (hf : f < i) (hi : i ≤ s.size) : At s i x2 (x7 ++ [wordAt s f i]) false := by
  rcases h with ⟨e, e1, c, h1, h2, h3⟩ | ⟨e0, e, h1, h2, h3⟩
  · subst e
    exact .inr ⟨e1, i, h1, .one h2 (fun h => h3 (by omega)) ⟨rfl, hf, hi⟩, .nil⟩
  · exact .inr ⟨e0, i, h1, .snoc h2 h3 ⟨rfl, hf, hi⟩, .nil⟩
theorem At.line {s : ByteArray} {i : Nat} {x2 : List S49} {x7 : List S51} {n : Bool} (h : At s i x2 x7 n) (h10 : bt s i = 10) : At s (i + 1) (sh x2 x7) [] false := by
  rcases h with ⟨e, e1, c, h1, h2, h3⟩ | ⟨e0, e, h1, h2, h3⟩
  · subst e
    exact .inl ⟨rfl, e1, c + 1, h1, .nl h2 h10, fun _ => by omega⟩
  · have hne := h2.ne
    refine .inl ⟨rfl, e, 1, ?_, .nl h3 h10, fun _ => by omega⟩
    unfold sh
    rw [if_neg hne]
    exact .snoc h1 h2
theorem At.map {s : ByteArray} {i : Nat} {x2 : List S49} {x7 : List S51} {n m : Bool} (h : At s i x2 x7 n) (k : ∀ e c, Gap s e i n c → Gap s e (i + 1) m c) : At s (i + 1) x2 x7 m := by
  rcases h with ⟨e, e1, c, h1, h2, h3⟩ | ⟨e0, e, h1, h2, h3⟩
  · exact .inl ⟨e, e1, c, h1, k _ _ h2, h3⟩
  · exact .inr ⟨e0, e, h1, h2, k _ _ h3⟩
def Run (s : ByteArray) (i : Nat) (st : St) : Prop := match st.md with
  | .bl => At s i st.dn st.nw false
  | .nt => At s i st.dn st.nw true
  | .wd f => At s f st.dn st.nw false ∧ f < i
theorem Run.fl {s : ByteArray} {i : Nat} {st : St} (h : Run s i st) (hi : i ≤ s.size) : ∃ n, At s i st.dn (fl s i st) n ∧ (st.md ≠ .nt → n = false) := by
  unfold Run at h
  unfold LexSpec.fl
  split at h
  · rename_i e; rw [e]; exact ⟨_, h, fun _ => rfl⟩
  · rename_i e; rw [e]; exact ⟨_, h, fun h => absurd rfl h⟩
  · rename_i f e; rw [e]; exact ⟨_, h.1.word h.2 hi, fun _ => rfl⟩
theorem runs (s : ByteArray) : ∀ i, i ≤ s.size → Run s i (run s i)
  | 0, _ => .inl ⟨rfl, 0, 0, .nil, .nil, fun h => absurd rfl h⟩
  | i + 1, hi => by
    have ih := runs s i (by omega)
    rw [run]
    unfold LexSpec.step
    by_cases h10 : bt s i = 10
    · rw [if_pos h10]
      obtain ⟨n, h, _⟩ := ih.fl (by omega)
      exact h.line h10
    · rw [if_neg h10]
      split
      · rename_i e
        unfold Run at ih ⊢
        rw [e] at ih ⊢
        exact ih.map fun e c h => .note h h10
      · rename_i e
        have ih' : At s i (run s i).dn (run s i).nw false := by unfold Run at ih; rw [e] at ih; exact ih
        split
        · rename_i hb
          unfold Run
          rw [e]
          exact ih'.map fun e c h => .blank h hb
        · split
          · rename_i h35
            exact ih'.map fun e c h => .hash h h35
          · exact ⟨ih', Nat.lt_succ_self _⟩
      · rename_i f e
        have ih' : At s f (run s i).dn (run s i).nw false ∧ f < i := by unfold Run at ih; rw [e] at ih; exact ih
        split
        · rename_i hb
          exact (ih'.1.word ih'.2 (by omega)).map fun e c h => .blank h hb
        · split
          · rename_i h35
            exact (ih'.1.word ih'.2 (by omega)).map fun e c h => .hash h h35
          · unfold Run
            rw [e]
            exact ⟨ih'.1, by omega⟩
theorem ended (s : ByteArray) : ∃ e n c, Ls s (lines s) e ∧ Gap s e s.size n c := by
  obtain ⟨n, h, _⟩ := (runs s s.size (Nat.le_refl _)).fl (Nat.le_refl _)
  unfold lines
  rcases h with ⟨h0, e, c, h1, h2, h3⟩ | ⟨e0, e, h1, h2, h3⟩
  · rw [h0]; exact ⟨e, n, c, h1, h2⟩
  · have hne := h2.ne
    refine ⟨e, n, 0, ?_, h3⟩
    unfold sh
    rw [if_neg hne]
    exact .snoc h1 h2
abbrev T := plnlaw7_LexWhere.l1
set_option linter.unusedSectionVars false
section
variable (s : ByteArray) (hs : s.size ≤ 1000) (L : List S49)
include hs
theorem w1' {i : Nat} (h : i ≤ 5000000) : wrap64 ((i : Int) + 1) = ((i + 1 : Nat) : Int) := by unfold wrap64; omega
/-- The gap ahead of a word is gone over. -/
theorem l3_to (i k : Nat) (tx : ByteArray) (a e0 : Nat) (r : Bool) : ∀ {j : Nat} {n : Bool} {c : Nat}, Gap s e0 j n c → j ≤ a → a ≤ s.size →
    (∃ K, plnlaw7_LexWhere.l3 K s L n (i : Int) (k : Int) tx (c : Int) (j : Int) (a : Int) = some r) → ∃ K, plnlaw7_LexWhere.l3 K s L false (i : Int) (k : Int) tx 0 (e0 : Int) (a : Int) = some r := by
  intro j n c h
  induction h with
  | nil => intro _ _ h; exact h
  | @nl j n c hg hb ih =>
    intro hj ha ⟨K, h⟩
    have hl := hg.le
    refine ih (by omega) ha ⟨K + 1, ?_⟩
    simp only [plnlaw7_LexWhere.l3]
    rw [if_pos (by omega), if_pos (by omega), if_pos (by omega), if_pos hb, w1' s hs (by omega), w1' s hs (by omega)]
    exact h
  | @hash j n c hg hb ih =>
    intro hj ha ⟨K, h⟩
    refine ih (by omega) ha ⟨K + 1, ?_⟩
    simp only [plnlaw7_LexWhere.l3]
    rw [if_pos (by omega), if_pos (by omega), if_pos (by omega), if_neg (by omega), if_pos hb, w1' s hs (by omega)]
    exact h
  | @note j c hg hb ih =>
    intro hj ha ⟨K, h⟩
    refine ih (by omega) ha ⟨K + 1, ?_⟩
    simp only [plnlaw7_LexWhere.l3]
    rw [if_pos (by omega), if_pos (by omega), if_pos (by omega), if_neg (by omega)]
    by_cases c35 : bt s j = 35
    · rw [if_pos c35, w1' s hs (by omega)]; exact h
    · rw [if_neg c35, if_pos trivial, w1' s hs (by omega)]; exact h
  | @blank j c hg hb ih =>
    intro hj ha ⟨K, h⟩
    refine ih (by omega) ha ⟨K + 1, ?_⟩
    simp only [plnlaw7_LexWhere.l3]
    rw [if_pos (by omega), if_pos (by omega), if_pos (by omega), if_neg (by omega), if_neg (by omega), if_neg (by decide), w1' s hs (by omega)]
    by_cases c9 : bt s j = 9
    · rw [if_pos c9]; exact h
    · rw [if_neg c9, if_pos (by omega)]; exact h
theorem l4_to (e0 : Nat) : ∀ {j : Nat} {n : Bool} {c : Nat}, Gap s e0 j n c → j ≤ s.size →
    (∃ K, plnlaw7_LexWhere.l4 K s n (j : Int) = some true) → ∃ K, plnlaw7_LexWhere.l4 K s false (e0 : Int) = some true := by
  intro j n c h
  induction h with
  | nil => intro _ h; exact h
  | @nl j n c hg hb ih =>
    intro hj ⟨K, h⟩
    refine ih (by omega) ⟨K + 1, ?_⟩
    simp only [plnlaw7_LexWhere.l4]
    rw [if_pos (by omega), if_pos (by omega), if_pos hb, w1' s hs (by omega)]
    exact h
  | @hash j n c hg hb ih =>
    intro hj ⟨K, h⟩
    refine ih (by omega) ⟨K + 1, ?_⟩
    simp only [plnlaw7_LexWhere.l4]
    rw [if_pos (by omega), if_pos (by omega), if_neg (by omega), if_pos hb, w1' s hs (by omega)]
    exact h
  | @note j c hg hb ih =>
    intro hj ⟨K, h⟩
    refine ih (by omega) ⟨K + 1, ?_⟩
    simp only [plnlaw7_LexWhere.l4]
    rw [if_pos (by omega), if_pos (by omega), if_neg (by omega)]
    by_cases c35 : bt s j = 35
    · rw [if_pos c35, w1' s hs (by omega)]; exact h
    · rw [if_neg c35, if_pos trivial, w1' s hs (by omega)]; exact h
  | @blank j c hg hb ih =>
    intro hj ⟨K, h⟩
    refine ih (by omega) ⟨K + 1, ?_⟩
    simp only [plnlaw7_LexWhere.l4]
    rw [if_pos (by omega), if_pos (by omega), if_neg (by omega), if_neg (by omega), if_neg (by decide), w1' s hs (by omega)]
    by_cases c9 : bt s j = 9
    · rw [if_pos c9]; exact h
    · rw [if_neg c9, if_pos (by omega)]; exact h
/-- One word is gone over. -/
theorem word_to (i k : Nat) (w : S51) (a e0 e c : Nat) (hi : i < L.length) (hk : k < (rd_T49 L (i : Int)).f0.length) (hw : rd_T51 (rd_T49 L (i : Int)).f0 (k : Int) = w)
    (hW : W s w a e) (hg : Gap s e0 a false c) (hc0 : 0 < k → c = 0) (hc1 : k = 0 → 0 < i → 0 < c) (hik : k < 1000000)
    (h : ∃ K, plnlaw7_LexWhere.l2 K s L (e : Int) false (i : Int) ((k + 1 : Nat) : Int) = some true) : ∃ K, plnlaw7_LexWhere.l2 K s L (e0 : Int) false (i : Int) (k : Int) = some true := by
  obtain ⟨h1, h2, h3⟩ := hW
  have hgl := hg.le
  have hf0 : w.f0 = s.extract a e := by rw [h1]; rfl
  have hf1 : w.f1 = (a : Int) := by rw [h1]; rfl
  have hz : w.f0.size = e - a := by rw [hf0, ByteArray.size_extract]; omega
  have h5 : ∃ K, plnlaw7_LexWhere.l3 K s L false (i : Int) (k : Int) w.f0 (c : Int) (a : Int) (a : Int) = some true := by
    obtain ⟨K, h⟩ := h
    refine ⟨K + 1, ?_⟩
    simp only [plnlaw7_LexWhere.l3]
    rw [if_neg (by omega), if_neg (by decide), w1' s hs (by omega), show wrap64 ((a : Int) + (w.f0.size : Int)) = (e : Int) from by rw [hz]; unfold wrap64; omega]
    by_cases g1 : (k : Int) > 0
    · rw [if_pos g1, if_neg (by omega), if_neg (by omega)]; exact h
    · rw [if_neg g1, if_pos (by omega)]
      by_cases g2 : (i : Int) > 0
      · rw [if_pos g2, if_neg (by omega)]; exact h
      · rw [if_neg g2]; exact h
  obtain ⟨K, h6⟩ := l3_to s hs L i k w.f0 a e0 true hg (Nat.le_refl _) (by omega) h5
  refine ⟨K + 2, ?_⟩
  simp only [plnlaw7_LexWhere.l2]
  rw [if_pos (by omega), if_pos (by omega), if_pos (by omega), if_pos (by omega), hw]
  have g1 : ¬ ((w.f0.size : Int) = 0) := by omega
  have g2 : ¬ (w.f1 < (e0 : Int)) := by omega
  have g3 : ¬ (w.f1 > ((s.size - (e - a) : Nat) : Int)) := by omega
  have g4 : 0 ≤ w.f1 := by omega
  have g5 : w.f1 ≤ (e : Int) := by omega
  have g6 : (e : Int) ≤ (s.size : Int) := by omega
  rw [if_neg g1, if_neg g2, show wrap64 ((s.size : Int) - (w.f0.size : Int)) = ((s.size - (e - a) : Nat) : Int) from by rw [hz]; unfold wrap64; omega, if_neg g3, if_pos g4, show wrap64 (w.f1 + (w.f0.size : Int)) = (e : Int) from by rw [hz, hf1]; unfold wrap64; omega, if_pos g5, if_pos g6]
  have n3 : (s.extract (w.f1).toNat ((e : Int)).toNat).toList = w.f0.toList := by rw [hf0, hf1]; rfl
  rw [n3]
  have n4 : (w.f0.toList != w.f0.toList) = false := by simp
  rw [n4]
  simp only [plnlaw7_LexWhere.j4]
  rw [if_neg (by decide), hf1]
  exact h6
theorem line_to (i : Nat) (hi : i < L.length) (e0 : Nat) (hm : (rd_T49 L (i : Int)).f0.length ≤ 1000000) {ws : List S51} {e : Nat} (h : Ln s i e0 ws e) : ∀ rest, (rd_T49 L (i : Int)).f0 = ws ++ rest →
    (∃ K, plnlaw7_LexWhere.l2 K s L (e : Int) false (i : Int) (ws.length : Int) = some true) → ∃ K, plnlaw7_LexWhere.l2 K s L (e0 : Int) false (i : Int) 0 = some true := by
  induction h with
  | @one w a e c hg hc hW =>
    intro rest hr h
    have : (rd_T49 L (i : Int)).f0.length = rest.length + 1 := by rw [hr]; simp
    refine word_to s hs L i 0 w a e0 e c hi (by omega) ?_ hW hg (by omega) (fun _ => hc) (by omega) ?_
    · rw [hr]; rfl
    · simpa using h
  | @snoc ws e1 w a e hl hg hW ih =>
    intro rest hr h
    have hle : (rd_T49 L (i : Int)).f0.length = ws.length + 1 + rest.length := by rw [hr]; simp; omega
    have hne := hl.ne
    refine ih ([w] ++ rest) (by rw [hr]; simp) ?_
    refine word_to s hs L i ws.length w a e1 e 0 hi (by omega) ?_ hW hg (fun _ => rfl) (by omega) (by omega) ?_
    · rw [hr]
      unfold rd_T51
      simp
    · simpa using h
theorem lines_to (hm : ∀ x ∈ L, x.f0.length ≤ 1000000) (hL : L.length ≤ 1000000) {x2 : List S49} {e : Nat} (h : Ls s x2 e) : ∀ rest, L = x2 ++ rest →
    (∃ K, plnlaw7_LexWhere.l1 K s L (e : Int) false (x2.length : Int) = some true) → ∃ K, plnlaw7_LexWhere.l1 K s L 0 false 0 = some true := by
  induction h with
  | nil => intro _ _ h; exact h
  | @snoc x2 e0 ws e hl hn ih =>
    intro rest hr h
    have hlen : L.length = x2.length + 1 + rest.length := by rw [hr]; simp; omega
    refine ih ([⟨ws⟩] ++ rest) (by rw [hr]; simp) ?_
    have hx : rd_T49 L (x2.length : Int) = ⟨ws⟩ := by
      rw [hr]
      unfold rd_T49
      simp
    have hmem : (⟨ws⟩ : S49) ∈ L := by rw [hr]; simp
    have hne := hn.ne
    obtain ⟨K, h'⟩ := line_to s hs L x2.length (by omega) e0 (by rw [hx]; exact hm _ hmem) hn [] (by rw [hx]; simp) (by
      obtain ⟨K, h⟩ := h
      refine ⟨K + 1, ?_⟩
      simp only [plnlaw7_LexWhere.l2]
      rw [if_pos (by omega), if_pos (by omega), hx, if_neg (by show ¬ ((ws.length : Int) < (ws.length : Int)); omega), w1' s hs (by omega)]
      simpa using h)
    refine ⟨K + 1, ?_⟩
    simp only [plnlaw7_LexWhere.l1]
    rw [if_pos (by omega), if_pos (by omega), hx, if_neg (by show ¬ ((ws.length : Int) = 0); omega)]
    exact h'
end
theorem run_each (s : ByteArray) : ∀ i, ∀ x ∈ (run s i).dn, x.f0.length ≤ i
  | 0 => by simp [run]
  | i + 1 => by
    have ih := run_each s i
    have hl := run_len s i
    have hf := fl_len s i (run s i)
    have ih' : ∀ x ∈ (run s i).dn, x.f0.length ≤ i + 1 := fun x hx => by have := ih x hx; omega
    rw [run, LexSpec.step]
    split
    · intro x hx
      unfold sh at hx
      split at hx
      · exact ih' x hx
      · rcases List.mem_append.1 hx with hx | hx
        · exact ih' x hx
        · simp at hx; subst hx; simp; omega
    · split <;> (try split) <;> (try split) <;> exact ih'
theorem lines_each (s : ByteArray) : ∀ x ∈ lines s, x.f0.length ≤ s.size := by
  intro x hx
  have hl := run_len s s.size
  have hf := fl_len s s.size (run s s.size)
  unfold lines sh at hx
  split at hx
  · exact run_each s _ x hx
  · rcases List.mem_append.1 hx with hx | hx
    · exact run_each s _ x hx
    · simp at hx; subst hx; simp; omega
theorem lines_len (s : ByteArray) : (lines s).length ≤ s.size := by
  have hl := run_len s s.size
  have hf := fl_len s s.size (run s s.size)
  have := sh_len (run s s.size).dn (fl s s.size (run s s.size))
  unfold lines
  omega
theorem l0_to (s : ByteArray) (hs : s.size ≤ 1000) (x : List S49) (y z : Int) (n : Nat) (hn : n ≤ s.size) (hok : ∀ j, j < n → okc (bt s j)) (h : ∃ K, plnlaw7_LexWhere.l0 K s x y z (n : Int) = some true) :
    ∀ d i, n - i = d → i ≤ n → ∃ K, plnlaw7_LexWhere.l0 K s x y z (i : Int) = some true := by
  intro d
  induction d with
  | zero => intro i hd hi; obtain rfl : i = n := by omega
            exact h
  | succ d ih =>
    intro i hd hi
    obtain ⟨K, h'⟩ := ih (i + 1) (by omega) (by omega)
    refine ⟨K + 1, ?_⟩
    simp only [plnlaw7_LexWhere.l0]
    rw [if_pos (by omega), if_pos (by omega), w1 (by omega)]
    have := hok i (by omega)
    unfold okc at this
    by_cases c9 : bt s i = 9
    · rw [if_pos c9]; exact h'
    rw [if_neg c9]
    by_cases c10 : bt s i = 10
    · rw [if_pos c10]; exact h'
    rw [if_neg c10, if_neg (by omega), if_neg (by omega)]
    exact h'
theorem LexWhere : plnlaw7_LexWhere.Pure := by
  intro s _
  unfold plnlaw7_LexWhere.f
  have hF : Ev (fun k => plnlaw7_first.f k) true := by obtain ⟨K, h⟩ := first_is; exact .of plnlaw7_first.mono h
  refine Ev.rounds (Ev.bind hF ?_)
  simp only [if_true]
  by_cases hsz : (s.size : Int) > 1000
  · simp only [if_pos hsz]
    exact Ev.bind hF (Ev.now true)
  simp only [if_neg hsz]
  have hs : s.size ≤ 1000 := by omega
  rcases parts s with hok | ⟨n, hn, hok, hb⟩
  · obtain ⟨K, hK⟩ := good s (by omega) hok
    refine Ev.bind (Ev.of (lex_Lines.mono s) hK) ?_
    obtain ⟨e, n, c, h1, h2⟩ := ended s
    have hl4 := l4_to s hs e h2 (Nat.le_refl _) ⟨1, by simp only [plnlaw7_LexWhere.l4]; rw [if_neg (by omega)]⟩
    have hl1 := lines_to s hs (lines s) (fun x hx => by have := lines_each s x hx; omega) (by have := lines_len s; omega) h1 [] (by simp) (by
      obtain ⟨K, h⟩ := hl4
      refine ⟨K + 1, ?_⟩
      simp only [plnlaw7_LexWhere.l1]
      rw [if_neg (by omega)]
      exact h)
    obtain ⟨K, h⟩ := l0_to s hs (lines s) 0 0 s.size (Nat.le_refl _) hok (by
      obtain ⟨K, h⟩ := hl1
      refine ⟨K + 2, ?_⟩
      simp only [plnlaw7_LexWhere.l0]
      rw [if_neg (by omega), if_pos trivial]
      simp only [plnlaw7_LexWhere.j1]
      rw [if_neg (by decide)]
      exact h) _ 0 rfl (Nat.zero_le _)
    exact Ev.of (fun k => (plnlaw7_LexWhere.mono_l k).1 _ _ _ _ _) h
  · obtain ⟨K, hK⟩ := bad s (by omega) n hn hok hb
    refine Ev.bind (Ev.of (lex_Lines.mono s) hK) ?_
    obtain ⟨K, h⟩ := l0_to s hs [] (n : Int) 1 n (by omega) hok (by
      refine ⟨1, ?_⟩
      unfold okc at hb
      simp only [plnlaw7_LexWhere.l0]
      rw [if_pos (by omega), if_pos (by omega), if_neg (by omega), if_neg (by omega)]
      by_cases c : bt s n < 32
      · rw [if_pos c, if_pos trivial, if_pos trivial]; rfl
      · rw [if_neg c, if_pos (by omega), if_pos trivial, if_pos trivial]; rfl) _ 0 rfl (Nat.zero_le _)
    exact Ev.of (fun k => (plnlaw7_LexWhere.mono_l k).1 _ _ _ _ _) h
end Go.Proofs.Ytnibdgjlbhdmfaa.WherePure
