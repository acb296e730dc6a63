/- What lex.Lines answers, for the evaluator; plnlaw7.LexJoined. -/
import Derived.Test.YtnibdgjlbhdmfaaEvJa
import Derived.Test.YtnibdgjlbhdmfaaJoinPure
namespace Go.Proofs.Ytnibdgjlbhdmfaa.Ev
open Go
open Go.Proofs.Ytnibdgjlbhdmfaa.QLexWhere (S49 S51 k49 k51 z49 z51 k49_openM k51_openM lex_Lines.calls plnlaw7_first.calls)
open Go.Proofs.YtnibdgjlbhdmfaaW.PrintWords (Kd)
open Go.Proofs.Ytnibdgjlbhdmfaa.JoinPure (allOk nl)
open Go.RowKit (Below)
set_option linter.unusedVariables false
set_option linter.unusedSimpArgs false
def toW (w : S51) : Ev.Word := ⟨w.f0, w.f1⟩
def toL (l : S49) : Ev.Line := ⟨l.f0.map toW⟩
theorem rep_words {W : World} {base : Nat} {ok : Nat → Prop} {v : Value} {r : List S51} (h : Kd.R k51 51 W base ok v r) : Rep tb (fun b _ => base ≤ b ∧ b < W.heap.size) W v (.sl false 51 (r.map toW)) := by
  by_cases h0 : r = []
  · subst h0
    obtain ⟨A, c, rfl⟩ := Kd.R_slice h
    exact .nil _ _ _
  · have hp : 0 < r.length := List.length_pos_iff.2 h0
    obtain ⟨g, cap, rfl, hb, hg, _⟩ := Kd.R_form h hp
    have hn : r.length ≤ cap := by
      obtain ⟨A, c, e, hl, _⟩ := Kd.R_reads h
      injection e with _ _ e3
      omega
    have key : ∀ (i : Nat) x (o : Nat) a, (r.map toW)[i]? = some x → ((tb.cod 51).enc false x)[o]? = some a → ∃ u, W.cell? ⟨g, 0 + (i * szOf tb 51 + o), none⟩ = some u ∧ Rep tb (fun b _ => base ≤ b ∧ b < W.heap.size) W u a := by
      intro i x o a e1 e2
      rw [List.getElem?_map, Option.map_eq_some_iff] at e1
      obtain ⟨y, e1, rfl⟩ := e1
      have hi := get_lt e1
      obtain ⟨c, c1, c2, c3, _⟩ := Kd.R_elem h z51 (i : Int) (by omega) (by omega)
      have e3 : r.getD ((i : Int).toNat) z51 = y := by rw [Int.toNat_natCast, List.getD_eq_getElem?_getD, e1]; rfl
      rw [e3] at c2
      have ec := k51_openM c2
      subst ec
      rw [Nat.zero_add]
      match o, e2 with
      | 0, e2 =>
        cases e2
        exact ⟨_, c3 0 _ rfl, .v _⟩
      | 1, e2 =>
        cases e2
        exact ⟨_, c3 1 _ rfl, .v _⟩
      | o + 2, e2 => simp [tb, codA, cod51] at e2
    rw [show r.length = (r.map toW).length by simp]
    refine Rep.sl (Ty := Ty) (E := tb) g 0 cap 51 (r.map toW) (fun i o => (W.cell? ⟨g, 0 + (i * szOf tb 51 + o), none⟩).getD undef) (show (r.map toW).length ≤ cap from by rw [List.length_map]; exact hn) (fun i x o a e1 e2 => ?_) (fun i x o a e1 e2 => ?_)
    · obtain ⟨u, k1, k2⟩ := key i x o a e1 e2
      rw [k1]
      exact ⟨rfl, hb, hg⟩
    · obtain ⟨u, k1, k2⟩ := key i x o a e1 e2
      rw [k1]
      exact k2
theorem rep_lines {W : World} {base : Nat} {ok : Nat → Prop} {v : Value} {r : List S49} (h : Kd.R k49 49 W base ok v r) : Rep tb (fun b _ => base ≤ b ∧ b < W.heap.size) W v (.sl false 49 (r.map toL)) := by
  by_cases h0 : r = []
  · subst h0
    obtain ⟨A, c, rfl⟩ := Kd.R_slice h
    exact .nil _ _ _
  · have hp : 0 < r.length := List.length_pos_iff.2 h0
    obtain ⟨g, cap, rfl, hb, hg, _⟩ := Kd.R_form h hp
    have hn : r.length ≤ cap := by
      obtain ⟨A, c, e, hl, _⟩ := Kd.R_reads h
      injection e with _ _ e3
      omega
    have key : ∀ (i : Nat) x (o : Nat) a, (r.map toL)[i]? = some x → ((tb.cod 49).enc false x)[o]? = some a → ∃ u, W.cell? ⟨g, 0 + (i * szOf tb 49 + o), none⟩ = some u ∧ Rep tb (fun b _ => base ≤ b ∧ b < W.heap.size) W u a := by
      intro i x o a e1 e2
      rw [List.getElem?_map, Option.map_eq_some_iff] at e1
      obtain ⟨y, e1, rfl⟩ := e1
      have hi := get_lt e1
      obtain ⟨c, c1, c2, c3, _⟩ := Kd.R_elem h z49 (i : Int) (by omega) (by omega)
      have e3 : r.getD ((i : Int).toNat) z49 = y := by rw [Int.toNat_natCast, List.getD_eq_getElem?_getD, e1]; rfl
      rw [e3] at c2
      obtain ⟨v0, rfl, hw⟩ := k49_openM c2
      rw [Nat.zero_add]
      match o, e2 with
      | 0, e2 =>
        cases e2
        exact ⟨_, c3 0 _ rfl, rep_words hw⟩
      | o + 1, e2 => simp [tb, codA, cod49] at e2
    rw [show r.length = (r.map toL).length by simp]
    refine Rep.sl (Ty := Ty) (E := tb) g 0 cap 49 (r.map toL) (fun i o => (W.cell? ⟨g, 0 + (i * szOf tb 49 + o), none⟩).getD undef) (show (r.map toL).length ≤ cap from by rw [List.length_map]; exact hn) (fun i x o a e1 e2 => ?_) (fun i x o a e1 e2 => ?_)
    · obtain ⟨u, k1, k2⟩ := key i x o a e1 e2
      rw [k1]
      exact ⟨rfl, hb, hg⟩
    · obtain ⟨u, k1, k2⟩ := key i x o a e1 e2
      rw [k1]
      exact k2
theorem keep_of {X : Set2} {W W' : World} (h : Below W.heap.size W W') : Keep X W W' :=
  ⟨h.os, h.tape, h.output, h.size, fun k hk _ => h.block k hk, fun b j hb _ => ⟨h.cell hb, World.frozen?_of_block (w := W) (h.block b hb)⟩⟩
theorem S29_ok (l : List (AV Ty)) (r : AV Ty) (outs : List (AV Ty)) (h : (S29 l).val = some (r, outs)) : CallOk tb Try.prog 29 l r outs := by
  unfold S29 at h
  split at h
  · cases h
    intro W F X vs sets caps A
    have hv : vs = [] := List.length_eq_zero_iff.1 A.len
    subst hv
    obtain ⟨K, hK⟩ := Go.Proofs.Ytnibdgjlbhdmfaa.LexSpec.first_is
    refine (plnlaw7_first.calls K true W hK).mono fun e W' ⟨he, hb⟩ => ?_
    exact ⟨_, fun _ _ => False, F, fun _ _ _ => False, he, keep_of hb, fun _ _ h => h, fun _ _ h => .inl h, fun b j h => Nat.lt_of_lt_of_le (A.fb b j h).1 hb.size, .v _ _ (fun _ _ h => h), fun _ _ h => h.elim, rfl, fun i m t x b off e1 => by simp at e1, fun _ _ _ h => h.elim, fun _ _ _ _ h => h.elim⟩
  · cases h
theorem in29 : Entered 29 := ⟨Try.f29, bodyOf Try.f29, by kernel_rfl, by kernel_rfl, by kernel_rfl⟩
open Classical in
noncomputable def linesA (s : ByteArray) : List Ev.Line := if allOk s then (Go.Proofs.Ytnibdgjlbhdmfaa.LexSpec.lines s).map toL else []
open Classical in
noncomputable def errA (s : ByteArray) : Int := if allOk s then 0 else 1
theorem at_ex (s : ByteArray) : ∃ n : Int, s.size ≤ 4194304 → ∃ K r, Go.Proofs.Ytnibdgjlbhdmfaa.QLexWhere.lex_Lines.f K s = some (r, n, errA s) ∧ r.map toL = linesA s := by
  rcases Go.Proofs.Ytnibdgjlbhdmfaa.LexSpec.parts s with h | ⟨n, h1, h2, h3⟩
  · refine ⟨0, fun hs => ?_⟩
    obtain ⟨K, hK⟩ := Go.Proofs.Ytnibdgjlbhdmfaa.LexSpec.good s hs h
    have h : allOk s := h
    exact ⟨K, _, by unfold errA; rw [if_pos h]; exact hK, by unfold linesA; rw [if_pos h]⟩
  · refine ⟨n, fun hs => ?_⟩
    obtain ⟨K, hK⟩ := Go.Proofs.Ytnibdgjlbhdmfaa.LexSpec.bad s hs n h1 h2 h3
    have h : ¬ allOk s := fun h => h3 (h n h1)
    exact ⟨K, _, by unfold errA; rw [if_neg h]; exact hK, by unfold linesA; rw [if_neg h]; rfl⟩
noncomputable def atA (s : ByteArray) : Int := Classical.choose (at_ex s)
theorem S30_ok (l : List (AV Ty)) (r : AV Ty) (outs : List (AV Ty)) (h : (S30 linesA atA errA l).val = some (r, outs)) : CallOk tb Try.prog 30 l r outs := by
  unfold S30 at h
  split at h
  · rename_i s
    rcases ite_val h with ⟨hs, h⟩ | ⟨_, h⟩
    · cases h
      intro W F X vs sets caps A
      have hl := A.len
      match vs, hl with
      | [v], _ =>
        have hv := (A.rep 0 v _ rfl rfl (fun m t x e => by cases e)).eqv
        subst hv
        obtain ⟨K, r, hK, hr⟩ := Classical.choose_spec (at_ex s) hs
        refine (lex_Lines.calls K s r (atA s) (errA s) W hK).mono fun e W' ⟨v0, he, hS, hb⟩ => ?_
        have hrep : Rep tb (fun b _ => W.heap.size ≤ b ∧ b < W'.heap.size) W' v0 (.sl false 49 (linesA s)) := by
          rw [← hr]
          exact rep_lines (Kd.S_R hS)
        refine ⟨_, fun _ _ => False, fun b j => F b j ∨ (W.heap.size ≤ b ∧ b < W'.heap.size), fun _ _ _ => False, he, keep_of hb, fun _ _ h => .inl h, fun b j h => h.elim .inl fun h => .inr (.inl h.1), fun b j h => h.elim (fun h => Nat.lt_of_lt_of_le (A.fb b j h).1 hb.size) (·.2),
          .tup #[v0, .int .i64 (atA s), .int .i64 (errA s)] _ (fun _ _ _ => False) _ rfl (fun i v a e1 e2 => ?_) (fun _ _ _ _ h => h.elim) (fun _ _ _ h => h.elim), fun _ _ h => h.elim, rfl, fun i m t x b off e1 => ?_, fun _ _ _ h => h.elim, fun _ _ _ _ h => h.elim⟩
        · match i, e1, e2 with
          | 0, e1, e2 =>
            cases e1; cases e2
            exact .fr _ _ _ _ (hrep.stable fun b j h => ⟨.inr h, rfl⟩) (fun _ _ h => h)
          | 1, e1, e2 => cases e1; cases e2; exact .v _ _ (fun _ _ h => h)
          | 2, e1, e2 => cases e1; cases e2; exact .v _ _ (fun _ _ h => h)
          | i + 3, e1, e2 => simp at e2
        · cases i with
          | zero => cases e1
          | succ i => simp at e1
    · cases h
  · cases h
theorem in30 : Entered 30 := ⟨Try.f30, bodyOf Try.f30, by kernel_rfl, by kernel_rfl, by kernel_rfl⟩
theorem toL_sh (d : Nat) (l : S49) : toL (Go.Proofs.Ytnibdgjlbhdmfaa.JoinPure.shL d l) = shEL d (toL l) := by
  unfold toL Go.Proofs.Ytnibdgjlbhdmfaa.JoinPure.shL shEL
  simp only [List.map_map]
  rfl
theorem sh_words (s : ByteArray) (hs : s.size ≤ 500) : (Go.Proofs.Ytnibdgjlbhdmfaa.LexSpec.lines s).length ≤ 1000000 ∧ ∀ l, l ∈ Go.Proofs.Ytnibdgjlbhdmfaa.LexSpec.lines s → l.f0.length ≤ 1000000 := by
  have step : ∀ i, i ≤ s.size → ∀ l, l ∈ (Go.Proofs.Ytnibdgjlbhdmfaa.LexSpec.run s i).dn → l.f0.length ≤ 500 := by
    intro i
    induction i with
    | zero => intro _ l hl; simp [Go.Proofs.Ytnibdgjlbhdmfaa.LexSpec.run] at hl
    | succ i ih =>
      intro hi l hl
      have ih := ih (by omega)
      have h1 := Go.Proofs.Ytnibdgjlbhdmfaa.LexSpec.run_len s i
      have h2 := Go.Proofs.Ytnibdgjlbhdmfaa.LexSpec.fl_len s i (Go.Proofs.Ytnibdgjlbhdmfaa.LexSpec.run s i)
      rw [Go.Proofs.Ytnibdgjlbhdmfaa.LexSpec.run, Go.Proofs.Ytnibdgjlbhdmfaa.LexSpec.step] at hl
      split at hl
      · simp only [Go.Proofs.Ytnibdgjlbhdmfaa.LexSpec.sh] at hl
        split at hl
        · exact ih l hl
        · rcases List.mem_append.1 hl with hl | hl
          · exact ih l hl
          · simp only [List.mem_singleton] at hl; subst hl; simp only; omega
      · split at hl
        · exact ih l hl
        · split at hl
          · exact ih l hl
          · split at hl <;> exact ih l hl
        · split at hl
          · exact ih l hl
          · split at hl <;> exact ih l hl
  have h1 := Go.Proofs.Ytnibdgjlbhdmfaa.LexSpec.run_len s s.size
  have h2 := Go.Proofs.Ytnibdgjlbhdmfaa.LexSpec.fl_len s s.size (Go.Proofs.Ytnibdgjlbhdmfaa.LexSpec.run s s.size)
  have h3 := Go.Proofs.Ytnibdgjlbhdmfaa.LexSpec.sh_len (Go.Proofs.Ytnibdgjlbhdmfaa.LexSpec.run s s.size).dn (Go.Proofs.Ytnibdgjlbhdmfaa.LexSpec.fl s s.size (Go.Proofs.Ytnibdgjlbhdmfaa.LexSpec.run s s.size))
  refine ⟨?_, fun l hl => ?_⟩
  · unfold Go.Proofs.Ytnibdgjlbhdmfaa.LexSpec.lines; omega
  · unfold Go.Proofs.Ytnibdgjlbhdmfaa.LexSpec.lines at hl
    simp only [Go.Proofs.Ytnibdgjlbhdmfaa.LexSpec.sh] at hl
    split at hl
    · have := step s.size (Nat.le_refl _) l hl; omega
    · rcases List.mem_append.1 hl with hl | hl
      · have := step s.size (Nat.le_refl _) l hl; omega
      · simp only [List.mem_singleton] at hl; subst hl; simp only; omega
theorem low_lines (s : ByteArray) (hs : s.size ≤ 500) : (linesA s).length ≤ 1000000 ∧ ∀ l, l ∈ linesA s → lowL l := by
  obtain ⟨h1, h2⟩ := sh_words s hs
  unfold linesA
  split
  · refine ⟨by simpa using h1, fun l hl => ?_⟩
    obtain ⟨y, hy, rfl⟩ := List.mem_map.1 hl
    refine ⟨by simpa [toL] using h2 y hy, fun w hw => ?_⟩
    obtain ⟨u, hu, rfl⟩ := List.mem_map.1 hw
    have := Go.Proofs.Ytnibdgjlbhdmfaa.JoinPure.lines_low s y hy u hu
    exact ⟨this.1, by have := this.2; show u.f1 ≤ 1000000; omega⟩
  · exact ⟨by simp, fun l hl => by cases hl⟩
theorem alike (a b : ByteArray) (ha : a.size ≤ 500) (hb : b.size ≤ 500) : Alike linesA errA a b := by
  have hj := Go.Proofs.Ytnibdgjlbhdmfaa.JoinPure.all_joined a b
  refine ⟨fun h => ?_, fun h1 h2 => ?_, low_lines a ha, low_lines b hb⟩
  · have : ¬ allOk (a ++ nl ++ b) := fun hc => by
      obtain ⟨k1, k2⟩ := hj.1 hc
      rcases h with h | h
      · exact h (by unfold errA; rw [if_pos k1])
      · exact h (by unfold errA; rw [if_pos k2])
    show errA (a ++ nl ++ b) = 1
    unfold errA
    rw [if_neg this]
  · have k1 : allOk a := Classical.byContradiction fun h => by unfold errA at h1; rw [if_neg h] at h1; cases h1
    have k2 : allOk b := Classical.byContradiction fun h => by unfold errA at h2; rw [if_neg h] at h2; cases h2
    have k3 := hj.2 ⟨k1, k2⟩
    refine ⟨?_, ?_⟩
    · show errA (a ++ nl ++ b) = 0
      unfold errA
      rw [if_pos k3]
    · show linesA (a ++ nl ++ b) = _
      unfold linesA
      rw [if_pos k1, if_pos k2, if_pos k3, Go.Proofs.Ytnibdgjlbhdmfaa.JoinPure.joined, List.map_append, List.map_map, List.map_map]
      congr 1
      exact List.map_congr_left fun l _ => toL_sh _ l
theorem joined_ok (a b : ByteArray) : CallOk tb Try.prog 7 [.v (.string a), .v (.string b)] (.v (.bool true)) [.dead, .dead] := by
  obtain ⟨n, h⟩ := joined_walk (LA := linesA) (AT := atA) (ER := errA) (a := a) (b := b) (alike a b)
  refine fn_ok tbOk good (fun f mu S h => ?_) mixed (fn := Try.f7) (body := b7) (by kernel_rfl) (by kernel_rfl) rfl rfl (by show 2 ≤ 148; omega) h
  unfold C7 at h
  simp only at h
  split at h
  · cases h; exact ⟨in29, S29_ok⟩
  · cases h; exact ⟨in30, S30_ok⟩
  · cases h
end Go.Proofs.Ytnibdgjlbhdmfaa.Ev
