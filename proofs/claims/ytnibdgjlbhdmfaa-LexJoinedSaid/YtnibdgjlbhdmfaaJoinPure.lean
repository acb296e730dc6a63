/- Two texts, an end of a line between: their lines are the lines of both, the later ones further on. -/
import Derived.Test.YtnibdgjlbhdmfaaLexSpec
namespace Go.Proofs.Ytnibdgjlbhdmfaa.JoinPure
open Go.RowKit Go.Proofs.Ytnibdgjlbhdmfaa.QLexWhere Go.Proofs.Ytnibdgjlbhdmfaa.LexSpec Go.Proofs.YtnibdgjlbhdmfaaW.PrintWords Go.Proofs.YtnibdgjlbhdmfaaW.PrintLast Go.Proofs.YtnibdgjlbhdmfaaW.PrintMore
set_option linter.unusedVariables false
set_option linter.unusedSimpArgs false
def nl : ByteArray := ⟨#[10]⟩
theorem bt_left {a c : ByteArray} {i : Nat} (h : i < a.size) : bt (a ++ c) i = bt a i := by
  unfold bt
  rw [dif_pos (by rw [ByteArray.size_append]; simp; omega), dif_pos (by simpa using h)]
  congr 2
  simp only [Int.toNat_natCast]
  exact ByteArray.getElem_append_left h
theorem bt_right {a c : ByteArray} {i : Nat} (h : i < c.size) : bt (a ++ c) ((a.size + i : Nat) : Int) = bt c i := by
  unfold bt
  rw [dif_pos (by rw [ByteArray.size_append]; simp only [Int.toNat_natCast]; omega), dif_pos (by simpa using h)]
  congr 2
  simp only [Int.toNat_natCast]
  rw [ByteArray.getElem_append_right (by omega)]
  congr 1
  omega
theorem ex_left {a c : ByteArray} {f i : Nat} (h : i ≤ a.size) : (a ++ c).extract f i = a.extract f i := by
  rw [ByteArray.extract_append]
  have : c.extract (f - a.size) (i - a.size) = ByteArray.empty := by
    rw [show i - a.size = 0 by omega]
    apply ByteArray.ext
    simp [ByteArray.data_extract]
  rw [this, ByteArray.append_empty]
theorem word_left {a c : ByteArray} {f i : Nat} (h : i ≤ a.size) : wordAt (a ++ c) f i = wordAt a f i := by
  unfold wordAt
  rw [ex_left h]
theorem fl_left {a c : ByteArray} {i : Nat} {st : St} (h : i ≤ a.size) : fl (a ++ c) i st = fl a i st := by
  unfold fl
  split
  · rw [word_left h]
  · rfl
theorem step_left {a c : ByteArray} {i : Nat} {st : St} (h : i < a.size) : LexSpec.step (a ++ c) i st = LexSpec.step a i st := by
  unfold LexSpec.step
  rw [bt_left h, fl_left (Nat.le_of_lt h)]
  split
  · rfl
  · split
    · rfl
    · rfl
    · rw [word_left (Nat.le_of_lt h)]
theorem run_left (a c : ByteArray) : ∀ i, i ≤ a.size → run (a ++ c) i = run a i
  | 0, _ => rfl
  | i + 1, h => by
    rw [run, run, run_left a c i (by omega), step_left (by omega)]
def shW (d : Nat) (w : S51) : S51 := ⟨w.f0, w.f1 + d⟩
def shL (d : Nat) (l : S49) : S49 := ⟨l.f0.map (shW d)⟩
def shM (d : Nat) : Md → Md
  | .wd f => .wd (d + f)
  | .bl => .bl
  | .nt => .nt
theorem word_right {a c : ByteArray} {f i : Nat} : wordAt (a ++ c) (a.size + f) (a.size + i) = shW a.size (wordAt c f i) := by
  unfold wordAt shW
  rw [ByteArray.extract_append_size_add]
  congr 1
  show ((a.size + f : Nat) : Int) = (f : Int) + (a.size : Int)
  omega
def shS (d : Nat) (L : List S49) (st : St) : St := ⟨L ++ st.dn.map (shL d), st.nw.map (shW d), shM d st.md⟩
theorem fl_right {a c : ByteArray} {i : Nat} {L : List S49} {st : St} : fl (a ++ c) (a.size + i) (shS a.size L st) = (fl c i st).map (shW a.size) := by
  obtain ⟨dn, nw, md⟩ := st
  cases md with
  | bl => rfl
  | nt => rfl
  | wd f =>
    show nw.map (shW a.size) ++ [wordAt (a ++ c) (a.size + f) (a.size + i)] = (nw ++ [wordAt c f i]).map (shW a.size)
    rw [word_right]
    simp
theorem sh_right {d : Nat} {L : List S49} {dn : List S49} {nw : List S51} : sh (L ++ dn.map (shL d)) (nw.map (shW d)) = L ++ (sh dn nw).map (shL d) := by
  unfold sh
  by_cases h : nw.length = 0
  · rw [if_pos (by simpa using h), if_pos h]
  · rw [if_neg (by simpa using h), if_neg h]
    simp [shL]
theorem step_right {a c : ByteArray} {i : Nat} {L : List S49} {st : St} (h : i < c.size) : LexSpec.step (a ++ c) (a.size + i) (shS a.size L st) = shS a.size L (LexSpec.step c i st) := by
  unfold LexSpec.step
  rw [bt_right h, fl_right]
  by_cases h10 : bt c i = 10
  · rw [if_pos h10, if_pos h10]
    unfold shS
    simp only [List.map_nil, shM]
    rw [sh_right]
  · rw [if_neg h10, if_neg h10]
    obtain ⟨dn, nw, md⟩ := st
    cases md with
    | nt => rfl
    | bl =>
      simp only [shS, shM]
      by_cases hb : bt c i = 9 ∨ bt c i = 32
      · simp only [if_pos hb, shM]
      · rw [if_neg hb, if_neg hb]
        by_cases h35 : bt c i = 35
        · simp only [if_pos h35, shM]
        · simp only [if_neg h35, shM]
    | wd f =>
      simp only [shS, shM]
      by_cases hb : bt c i = 9 ∨ bt c i = 32
      · simp only [if_pos hb, shM, word_right, List.map_append, List.map_cons, List.map_nil]
      · rw [if_neg hb, if_neg hb]
        by_cases h35 : bt c i = 35
        · simp only [if_pos h35, shM, word_right, List.map_append, List.map_cons, List.map_nil]
        · simp only [if_neg h35, shM]
theorem run_right {a c : ByteArray} {L : List S49} (h0 : run (a ++ c) a.size = ⟨L, [], .bl⟩) : ∀ i, i ≤ c.size → run (a ++ c) (a.size + i) = shS a.size L (run c i)
  | 0, _ => by rw [Nat.add_zero, h0]; simp [shS, run, shM]
  | i + 1, h => by
    rw [← Nat.add_assoc, run, run_right h0 i (by omega), step_right (by omega)]
    rfl
theorem lines_end {a c : ByteArray} (h : 0 < c.size) (h10 : bt c 0 = 10) : run (a ++ c) (a.size + 1) = ⟨lines a, [], .bl⟩ := by
  rw [run, run_left a c a.size (Nat.le_refl _)]
  unfold LexSpec.step
  have : bt (a ++ c) ((a.size : Nat) : Int) = 10 := by
    have := bt_right (a := a) h
    rw [Nat.add_zero] at this
    rw [this]
    exact h10
  rw [if_pos this, fl_left (Nat.le_refl _)]
  rfl
theorem nl_bt : bt nl 0 = 10 := by decide
theorem joined (a b : ByteArray) : lines (a ++ nl ++ b) = lines a ++ (lines b).map (shL (a.size + 1)) := by
  have hsz : (a ++ nl).size = a.size + 1 := by rw [ByteArray.size_append]; rfl
  have h0 : run (a ++ nl ++ b) (a ++ nl).size = ⟨lines a, [], .bl⟩ := by
    rw [run_left (a ++ nl) b _ (Nat.le_refl _), hsz]
    exact lines_end (by decide) nl_bt
  have h1 := run_right h0 b.size (Nat.le_refl _)
  show sh (run (a ++ nl ++ b) (a ++ nl ++ b).size).dn (fl (a ++ nl ++ b) (a ++ nl ++ b).size (run (a ++ nl ++ b) (a ++ nl ++ b).size)) = _
  rw [ByteArray.size_append, h1, fl_right]
  show sh (lines a ++ _) _ = _
  rw [sh_right, hsz]
  rfl
/-- May all bytes stand? -/
def allOk (s : ByteArray) : Prop := ∀ j, j < s.size → okc (bt s j)
theorem all_joined (a b : ByteArray) : allOk (a ++ nl ++ b) ↔ allOk a ∧ allOk b := by
  have hsz : (a ++ nl).size = a.size + 1 := by rw [ByteArray.size_append]; rfl
  refine ⟨fun h => ⟨fun j hj => ?_, fun j hj => ?_⟩, fun ⟨h1, h2⟩ j hj => ?_⟩
  · have := h j (by rw [ByteArray.size_append, hsz]; omega)
    rwa [bt_left (a := a ++ nl) (c := b) (by omega), bt_left hj] at this
  · have := h ((a ++ nl).size + j) (by have e : (a ++ nl ++ b).size = (a ++ nl).size + b.size := ByteArray.size_append; omega)
    rwa [bt_right hj] at this
  · rw [ByteArray.size_append, hsz] at hj
    by_cases e1 : j < a.size
    · rw [bt_left (a := a ++ nl) (c := b) (by omega), bt_left e1]; exact h1 j e1
    · by_cases e2 : j = a.size
      · subst e2
        rw [bt_left (a := a ++ nl) (c := b) (by omega)]
        have := bt_right (a := a) (c := nl) (i := 0) (by decide)
        rw [Nat.add_zero] at this
        rw [this]
        exact .inr (.inl nl_bt)
      · obtain ⟨k, rfl⟩ : ∃ k, j = (a ++ nl).size + k := ⟨j - (a.size + 1), by omega⟩
        rw [bt_right (by omega)]
        exact h2 k (by omega)
/-- Where words stand. -/
def Low (n : Nat) (l : List S51) : Prop := ∀ w, w ∈ l → 0 ≤ w.f1 ∧ w.f1 ≤ n
theorem Low.app {n : Nat} {l : List S51} (h : Low n l) {s : ByteArray} {f i : Nat} (hf : f ≤ n) : Low n (l ++ [wordAt s f i]) := fun w hw => by
  rcases List.mem_append.1 hw with hw | hw
  · exact h w hw
  · simp only [List.mem_singleton] at hw; subst hw; exact ⟨by show (0 : Int) ≤ f; omega, by show (f : Int) ≤ n; omega⟩
def LowS (n : Nat) (st : St) : Prop := (∀ l, l ∈ st.dn → Low n l.f0) ∧ Low n st.nw ∧ ∀ f, st.md = .wd f → f ≤ n
theorem LowS.up {n : Nat} {st : St} (h : LowS n st) : LowS (n + 1) st :=
  ⟨fun l hl w hw => ⟨(h.1 l hl w hw).1, by have := (h.1 l hl w hw).2; omega⟩, fun w hw => ⟨(h.2.1 w hw).1, by have := (h.2.1 w hw).2; omega⟩, fun f hf => by have := h.2.2 f hf; omega⟩
theorem LowS.fl {n : Nat} {st : St} (h : LowS n st) (s : ByteArray) (i : Nat) : Low n (LexSpec.fl s i st) := by
  unfold LexSpec.fl
  split
  · rename_i f e; exact h.2.1.app (h.2.2 f e)
  · exact h.2.1
theorem low_sh {n : Nat} {dn : List S49} {nw : List S51} (h1 : ∀ l, l ∈ dn → Low n l.f0) (h2 : Low n nw) : ∀ l, l ∈ sh dn nw → Low n l.f0 := by
  unfold sh
  split
  · exact h1
  · intro l hl
    rcases List.mem_append.1 hl with hl | hl
    · exact h1 l hl
    · simp only [List.mem_singleton] at hl; subst hl; exact h2
theorem run_low (s : ByteArray) : ∀ i, LowS i (run s i)
  | 0 => ⟨fun l hl => by simp [run] at hl, fun w hw => by simp [run] at hw, fun f hf => by simp [run] at hf⟩
  | i + 1 => by
    have ih := (run_low s i).up
    have fl := ih.fl s i
    rw [run]
    generalize run s i = st at ih fl
    unfold LexSpec.step
    split
    · refine ⟨low_sh ih.1 fl, ?_, ?_⟩
      · intro w hw; cases hw
      · intro f hf; cases hf
    · obtain ⟨dn, nw, md⟩ := st
      cases md with
      | nt => exact ih
      | bl =>
        simp only
        split
        · exact ih
        · split
          · exact ⟨ih.1, ih.2.1, fun f hf => by cases hf⟩
          · exact ⟨ih.1, ih.2.1, fun f hf => by cases hf; omega⟩
      | wd f =>
        simp only
        split
        · exact ⟨ih.1, fl, fun f hf => by cases hf⟩
        · split
          · exact ⟨ih.1, fl, fun f hf => by cases hf⟩
          · exact ih
theorem lines_low (s : ByteArray) : ∀ l, l ∈ lines s → Low s.size l.f0 := low_sh (run_low s s.size).1 ((run_low s s.size).fl s s.size)
end Go.Proofs.Ytnibdgjlbhdmfaa.JoinPure
