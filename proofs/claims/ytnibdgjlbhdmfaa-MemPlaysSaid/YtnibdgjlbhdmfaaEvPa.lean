/- mem and its document's twin: what Make, Size, Load, Store come to. -/
import Derived.Test.YtnibdgjlbhdmfaaEvK0
import Derived.Test.YtnibdgjlbhdmfaaEvTr
namespace Go.Proofs.Ytnibdgjlbhdmfaa.Ev
open Go
set_option linter.unusedVariables false
set_option linter.unusedSimpArgs false
abbrev EvR := Option (AV Ty × List (AV Ty))
theorem nil_arg {f t : Nat} {res : AV Ty} {outs : List (AV Ty)} (h : ∀ A c, CallOk tb Try.prog f [.v (.slice A 0 c)] res outs) : CallOk tb Try.prog f [.sl false t []] res outs := by
  intro W F X vs sets caps A
  have hl := A.len
  match vs, hl with
  | [v], _ =>
    have hr := A.rep 0 v (.sl false t []) rfl rfl (fun m t x e => by cases e)
    obtain ⟨A0, c, e⟩ := hr.slen
    simp only [List.length_nil] at e
    subst e
    refine (h A0 c W F X _ sets caps ⟨rfl, A.fb, fun i v a e1 e2 _ => ?_, fun i v m t x e1 e2 => ?_, A.dj, A.inX, fun b j hx => ?_⟩).mono fun e w' he => ?_
    · cases i with
      | zero => cases e1; cases e2; exact .v _
      | succ i => simp at e2
    · cases i with
      | zero => cases e2
      | succ i => simp at e2
    · obtain ⟨i, m, t, x, e1, _⟩ := A.X b j hx
      cases i with
      | zero => cases e1
      | succ i => simp at e1
    · obtain ⟨v, S, F', sets', h1, h2, h3, h4, h5, h6, h7, h8, h9, h10, h11⟩ := he
      refine ⟨v, S, F', sets', h1, h2, h3, h4, h5, h6, h7, h8, fun i m t x b off e1 e2 => ?_, h10, h11⟩
      cases i with
      | zero => cases e1
      | succ i => simp at e1
def U0 : Cuts := ⟨fun _ => none, fun _ => none, fun _ => none⟩
noncomputable def b47 : Code := bodyOf Try.f47
def C47 : Cfg Ty := ⟨fun _ => none, fun
  | 5 => true
  | _ => false, 8, 0⟩
theorem e47 (xs : List Int) : evalF tb C47 U0 1 b47 Try.f47.results.toList (.own 2) [.sl false 2 xs] = if 0 < xs.length then if 0 + xs.length + 1 ≤ 549755813888 ∧ (0 + xs.length + 1) * 8 ≤ 549755813888 then some (.sl true 2 xs, [.dead]) else none else none := by kernel_rfl
theorem e47s (a : Addr) (c : Nat) : evalF tb C47 U0 1 b47 Try.f47.results.toList (.own 2) [.v (.slice (some a) 0 c)] = some (.sl true 2 [], [.dead]) := by kernel_rfl
theorem e47n (c : Nat) : evalF tb C47 U0 1 b47 Try.f47.results.toList (.own 2) [.v (.slice none 0 c)] = some (.sl true 2 [], [.dead]) := by kernel_rfl
theorem clone_ok (xs : List Int) (hb : xs.length ≤ 34359738368) : CallOk tb Try.prog 47 [.sl false 2 xs] (.sl true 2 xs) [.dead] := by
  have done : ∀ a, evalF tb C47 U0 1 b47 Try.f47.results.toList (.own 2) [a] = some (.sl true 2 xs, [.dead]) → isBox a = false → CallOk tb Try.prog 47 [a] (.sl true 2 xs) [.dead] := fun a h hx =>
    fn_ok tbOk good (fun f mu S h => by cases h) mixed (fn := Try.f47) (body := b47) (by kernel_rfl) (by kernel_rfl) rfl (by cases a <;> first | rfl | cases hx) (by show 1 ≤ 8; omega) h
  by_cases h0 : xs = []
  · subst h0
    refine nil_arg fun A c => ?_
    cases A with
    | none => exact done _ (e47n c) rfl
    | some a => exact done _ (e47s a c) rfl
  · refine done _ ?_ rfl
    rw [e47, if_pos (List.length_pos_iff.2 h0), if_pos (by omega)]
def S47 : List (AV Ty) → T (AV Ty × List (AV Ty))
  | [.sl false 2 xs] => .ite (xs.length ≤ 34359738368) inferInstance (.ret (.sl true 2 xs, [.dead])) .fail
  | _ => .fail
theorem S47_ok (l : List (AV Ty)) (r : AV Ty) (outs : List (AV Ty)) (h : (S47 l).val = some (r, outs)) : CallOk tb Try.prog 47 l r outs := by
  unfold S47 at h
  split at h
  · rcases ite_val h with ⟨e, h⟩ | ⟨_, h⟩
    · cases h; exact clone_ok _ e
    · cases h
  · cases h
theorem in47 : Entered 47 := ⟨Try.f47, b47, by kernel_rfl, by kernel_rfl, by kernel_rfl⟩
-- New
noncomputable def b19 : Code := bodyOf Try.f19
def C19 : Cfg Ty := ⟨fun _ => none, fun
  | 2 => true
  | _ => false, 3, 0⟩
theorem new_ok : CallOk tb Try.prog 19 [] (.box true 73 (⟨[]⟩ : Ev.Mem72)) [] :=
  fn_ok (C := C19) (U := U0) (n := 1) (q := .keep) tbOk good (fun f mu S h => by cases h) mixed (fn := Try.f19) (body := b19) (by kernel_rfl) (by kernel_rfl) rfl rfl (by show 0 ≤ 3; omega) (by kernel_rfl)
def S19 : List (AV Ty) → T (AV Ty × List (AV Ty))
  | [] => .ret (.box true 73 (⟨[]⟩ : Ev.Mem72), [])
  | _ => .fail
theorem S19_ok (l : List (AV Ty)) (r : AV Ty) (outs : List (AV Ty)) (h : (S19 l).val = some (r, outs)) : CallOk tb Try.prog 19 l r outs := by
  unfold S19 at h
  split at h
  · cases h; exact new_ok
  · cases h
theorem in19 : Entered 19 := ⟨Try.f19, b19, by kernel_rfl, by kernel_rfl, by kernel_rfl⟩
-- Make
noncomputable def b20 : Code := bodyOf Try.f20
def C20 : Cfg Ty := ⟨fun
  | 47 => some ([false], S47)
  | _ => none, fun
  | 12 => true
  | _ => false, 22, 1⟩
theorem e20 (L : List (List Int)) (xs : List Int) : evalF tb C20 U0 1 b20 Try.f20.results.toList .keep [.box true 73 (⟨L⟩ : Ev.Mem72), .sl false 2 xs] =
    if xs.length ≤ 34359738368 then if L.length + 1 + 1 ≤ 549755813888 ∧ (L.length + 1 + 1) * 24 ≤ 549755813888 then some (.v (.int .i64 (IntKind.i64.wrap (((L ++ [xs]).length : Nat) - 1))), [.box true 73 (⟨L ++ [xs]⟩ : Ev.Mem72), .dead]) else none else none := by kernel_rfl
theorem wrap_len {L : List (List Int)} {xs : List Int} (h : L.length ≤ 1000000) : IntKind.i64.wrap (((L ++ [xs]).length : Nat) - 1) = (L.length : Int) := by
  rw [List.length_append, List.length_singleton, wrap_up (by omega)]
  omega
theorem make_ok (L : List (List Int)) (xs : List Int) (h1 : L.length ≤ 1000000) (h2 : xs.length ≤ 1000000) : CallOk tb Try.prog 20 [.box true 73 (⟨L⟩ : Ev.Mem72), .sl false 2 xs] (.v (.int .i64 L.length)) [.box true 73 (⟨L ++ [xs]⟩ : Ev.Mem72), .dead] := by
  have h := e20 L xs
  rw [if_pos (by omega), if_pos (by omega), wrap_len h1] at h
  refine fn_ok tbOk good (fun f mu S h => ?_) mixed (fn := Try.f20) (body := b20) (by kernel_rfl) (by kernel_rfl) rfl rfl (by show 2 ≤ 22; omega) h
  unfold C20 at h
  simp only at h
  split at h
  · cases h; exact ⟨in47, S47_ok⟩
  · cases h
def addM (L : List (List Int)) (xs : List Int) : List (List Int) := L ++ [xs]
def S20 : List (AV Ty) → T (AV Ty × List (AV Ty))
  | [.box true 73 ⟨L⟩, .sl false 2 xs] => .ite (L.length ≤ 1000000 ∧ xs.length ≤ 1000000) inferInstance (.ret (.v (.int .i64 L.length), [.box true 73 (⟨addM L xs⟩ : Ev.Mem72), .dead])) .fail
  | _ => .fail
theorem S20_ok (l : List (AV Ty)) (r : AV Ty) (outs : List (AV Ty)) (h : (S20 l).val = some (r, outs)) : CallOk tb Try.prog 20 l r outs := by
  unfold S20 at h
  split at h
  · rcases ite_val h with ⟨e, h⟩ | ⟨_, h⟩
    · cases h; exact make_ok _ _ e.1 e.2
    · cases h
  · cases h
theorem in20 : Entered 20 := ⟨Try.f20, b20, by kernel_rfl, by kernel_rfl, by kernel_rfl⟩
noncomputable def b21 : Code := bodyOf Try.f21
def C21 : Cfg Ty := ⟨fun _ => none, fun
  | 10 => true
  | 13 => true
  | _ => false, 23, 1⟩
def U21 : Cuts := ⟨fun _ => none, fun _ => none, fun
  | 1 => some [0, 1, 2, 3, 4, 6, 5, 7, 8, 9, 10, 11, 12]
  | _ => none⟩
theorem e21 (L : List (List Int)) (xs : List Int) : evalF tb C21 U21 1 b21 Try.f21.results.toList .keep [.box true 29 (⟨L⟩ : Ev.Mem), .sl false 2 xs] =
    if 0 + xs.length + 1 ≤ 549755813888 ∧ (0 + xs.length + 1) * 8 ≤ 549755813888 then if L.length + 1 + 1 ≤ 549755813888 ∧ (L.length + 1 + 1) * 24 ≤ 549755813888 then some (.v (.int .i64 (IntKind.i64.wrap (((L ++ [xs]).length : Nat) - 1))), [.box true 29 (⟨L ++ [xs]⟩ : Ev.Mem), .dead]) else none else none := by kernel_rfl
theorem makeR_ok (L : List (List Int)) (xs : List Int) (h1 : L.length ≤ 1000000) (h2 : xs.length ≤ 1000000) : CallOk tb Try.prog 21 [.box true 29 (⟨L⟩ : Ev.Mem), .sl false 2 xs] (.v (.int .i64 L.length)) [.box true 29 (⟨L ++ [xs]⟩ : Ev.Mem), .dead] := by
  have h := e21 L xs
  rw [if_pos (by omega), if_pos (by omega), wrap_len h1] at h
  exact fn_ok tbOk good (fun f mu S h => by cases h) mixed (fn := Try.f21) (body := b21) (by kernel_rfl) (by kernel_rfl) rfl rfl (by show 2 ≤ 23; omega) h
def S21 : List (AV Ty) → T (AV Ty × List (AV Ty))
  | [.box true 29 ⟨L⟩, .sl false 2 xs] => .ite (L.length ≤ 1000000 ∧ xs.length ≤ 1000000) inferInstance (.ret (.v (.int .i64 L.length), [.box true 29 (⟨addM L xs⟩ : Ev.Mem), .dead])) .fail
  | _ => .fail
theorem S21_ok (l : List (AV Ty)) (r : AV Ty) (outs : List (AV Ty)) (h : (S21 l).val = some (r, outs)) : CallOk tb Try.prog 21 l r outs := by
  unfold S21 at h
  split at h
  · rcases ite_val h with ⟨e, h⟩ | ⟨_, h⟩
    · cases h; exact makeR_ok _ _ e.1 e.2
    · cases h
  · cases h
theorem in21 : Entered 21 := ⟨Try.f21, b21, by kernel_rfl, by kernel_rfl, by kernel_rfl⟩
-- Len
noncomputable def b26 : Code := bodyOf Try.f26
def C26 : Cfg Ty := ⟨fun _ => none, fun _ => false, 8, 0⟩
def S26 : List (AV Ty) → T (AV Ty × List (AV Ty))
  | [.rp 73 [⟨L⟩] 0 0] => .ret (.v (.int .i64 L.length), [.dead])
  | _ => .fail
theorem e26 (L : List (List Int)) : evalF tb C26 U0 1 b26 Try.f26.results.toList .keep [.rp 73 [(⟨L⟩ : Ev.Mem72)] 0 0] = some (.v (.int .i64 L.length), [.dead]) := by kernel_rfl
theorem S26_ok (l : List (AV Ty)) (r : AV Ty) (outs : List (AV Ty)) (h : (S26 l).val = some (r, outs)) : CallOk tb Try.prog 26 l r outs := by
  unfold S26 at h
  split at h
  · cases h
    exact fn_ok tbOk good (fun f mu S h => by cases h) mixed (fn := Try.f26) (body := b26) (by kernel_rfl) (by kernel_rfl) rfl rfl (by show 1 ≤ 8; omega) (e26 _)
  · cases h
theorem in26 : Entered 26 := ⟨Try.f26, b26, by kernel_rfl, by kernel_rfl, by kernel_rfl⟩
-- Size
def sizeM (L : List (List Int)) (n : Int) : Int := if n < 0 then 0 else if (L.length : Int) ≤ n then 0 else (L.getD n.toNat []).length
noncomputable def b27 : Code := bodyOf Try.f27
def C27 : Cfg Ty := ⟨fun _ => none, fun _ => false, 24, 0⟩
theorem e27 (L : List (List Int)) (n : Int) : evalF tb C27 U0 1 b27 Try.f27.results.toList .keep [.rp 73 [(⟨L⟩ : Ev.Mem72)] 0 0, .v (.int .i64 n)] =
    if decide (n < 0) = false then if decide (n ≥ L.length) = true then some (.v (.int .i64 0), [.dead, .dead]) else if 0 ≤ n then if n < L.length then some (.v (.int .i64 (L.getD n.toNat []).length), [.dead, .dead]) else none else none else some (.v (.int .i64 0), [.dead, .dead]) := by kernel_rfl
theorem size_val {L : List (List Int)} {n : Int} : (if decide (n < 0) = false then if decide (n ≥ L.length) = true then some (.v (.int .i64 0), [.dead, .dead]) else if 0 ≤ n then if n < L.length then some (.v (.int .i64 (L.getD n.toNat []).length), [.dead, .dead]) else none else none else some (.v (.int .i64 0), [.dead, .dead]) : EvR) = some (.v (.int .i64 (sizeM L n)), [.dead, .dead]) := by
  unfold sizeM
  by_cases h : n < 0
  · rw [if_neg (by simp [h]), if_pos h]
  · rw [if_pos (by simp [h]), if_neg h]
    by_cases h2 : (L.length : Int) ≤ n
    · rw [if_pos (by simpa using h2), if_pos h2]
    · rw [if_neg (by simpa using h2), if_neg h2, if_pos (by omega), if_pos (by omega)]
def S27 : List (AV Ty) → T (AV Ty × List (AV Ty))
  | [.rp 73 [⟨L⟩] 0 0, .v (.int .i64 n)] => .ret (.v (.int .i64 (sizeM L n)), [.dead, .dead])
  | _ => .fail
theorem S27_ok (l : List (AV Ty)) (r : AV Ty) (outs : List (AV Ty)) (h : (S27 l).val = some (r, outs)) : CallOk tb Try.prog 27 l r outs := by
  unfold S27 at h
  split at h
  · cases h
    exact fn_ok tbOk good (fun f mu S h => by cases h) mixed (fn := Try.f27) (body := b27) (by kernel_rfl) (by kernel_rfl) rfl rfl (by show 2 ≤ 24; omega) ((e27 _ _).trans size_val)
  · cases h
theorem in27 : Entered 27 := ⟨Try.f27, b27, by kernel_rfl, by kernel_rfl, by kernel_rfl⟩
noncomputable def b28 : Code := bodyOf Try.f28
def C28 : Cfg Ty := ⟨fun _ => none, fun _ => false, 24, 0⟩
theorem e28 (L : List (List Int)) (n : Int) : evalF tb C28 U0 1 b28 Try.f28.results.toList .keep [.rp 29 [(⟨L⟩ : Ev.Mem)] 0 0, .v (.int .i64 n)] =
    if decide (n < 0) = false then if decide (n ≥ L.length) = true then some (.v (.int .i64 0), [.dead, .dead]) else if 0 ≤ n then if n < L.length then some (.v (.int .i64 (L.getD n.toNat []).length), [.dead, .dead]) else none else none else some (.v (.int .i64 0), [.dead, .dead]) := by kernel_rfl
def S28 : List (AV Ty) → T (AV Ty × List (AV Ty))
  | [.rp 29 [⟨L⟩] 0 0, .v (.int .i64 n)] => .ret (.v (.int .i64 (sizeM L n)), [.dead, .dead])
  | _ => .fail
theorem S28_ok (l : List (AV Ty)) (r : AV Ty) (outs : List (AV Ty)) (h : (S28 l).val = some (r, outs)) : CallOk tb Try.prog 28 l r outs := by
  unfold S28 at h
  split at h
  · cases h
    exact fn_ok tbOk good (fun f mu S h => by cases h) mixed (fn := Try.f28) (body := b28) (by kernel_rfl) (by kernel_rfl) rfl rfl (by show 2 ≤ 24; omega) ((e28 _ _).trans size_val)
  · cases h
theorem in28 : Entered 28 := ⟨Try.f28, b28, by kernel_rfl, by kernel_rfl, by kernel_rfl⟩
-- there
def hasM (L : List (List Int)) (n o : Int) : Bool := decide (0 ≤ o ∧ o < sizeM L n)
noncomputable def b48 : Code := bodyOf Try.f48
def C48 : Cfg Ty := ⟨fun
  | 27 => some ([], S27)
  | _ => none, fun _ => false, 16, 0⟩
theorem e48 (L : List (List Int)) (n o : Int) : evalF tb C48 U0 1 b48 Try.f48.results.toList .keep [.rp 73 [(⟨L⟩ : Ev.Mem72)] 0 0, .v (.int .i64 n), .v (.int .i64 o)] =
    if decide (o ≥ 0) = true then some (.v (.bool (decide (o < sizeM L n))), [.dead, .dead, .dead]) else some (.v (.bool false), [.dead, .dead, .dead]) := by kernel_rfl
def S48 : List (AV Ty) → T (AV Ty × List (AV Ty))
  | [.rp 73 [⟨L⟩] 0 0, .v (.int .i64 n), .v (.int .i64 o)] => .ret (.v (.bool (hasM L n o)), [.dead, .dead, .dead])
  | _ => .fail
theorem S48_ok (l : List (AV Ty)) (r : AV Ty) (outs : List (AV Ty)) (h : (S48 l).val = some (r, outs)) : CallOk tb Try.prog 48 l r outs := by
  unfold S48 at h
  split at h
  · rename_i L n o
    cases h
    refine fn_ok tbOk good (fun f mu S h => ?_) mixed (fn := Try.f48) (body := b48) (by kernel_rfl) (by kernel_rfl) rfl rfl (by show 3 ≤ 16; omega) ((e48 L n o).trans ?_)
    · unfold C48 at h
      simp only at h
      split at h
      · cases h; exact ⟨in27, S27_ok⟩
      · cases h
    · unfold hasM
      by_cases h0 : o ≥ 0
      · rw [if_pos (by simp [h0])]
        simp [h0]
      · rw [if_neg (by simp [h0])]
        simp [h0]
  · cases h
theorem in48 : Entered 48 := ⟨Try.f48, b48, by kernel_rfl, by kernel_rfl, by kernel_rfl⟩
-- Load
def loadM (L : List (List Int)) (n o : Int) : Int := if hasM L n o = true then (L.getD n.toNat []).getD o.toNat 0 else 0
theorem hasM_in {L : List (List Int)} {n o : Int} (h : hasM L n o = true) : 0 ≤ n ∧ n < L.length ∧ 0 ≤ o ∧ o < (L.getD n.toNat []).length := by
  unfold hasM at h
  have h := of_decide_eq_true h
  unfold sizeM at h
  split at h
  · omega
  · split at h
    · omega
    · omega
noncomputable def b22 : Code := bodyOf Try.f22
def C22 : Cfg Ty := ⟨fun
  | 48 => some ([], S48)
  | _ => none, fun _ => false, 23, 0⟩
def three (a : AV Ty) : EvR := some (a, [.dead, .dead, .dead])
theorem e22 (L : List (List Int)) (n o : Int) : evalF tb C22 U0 1 b22 Try.f22.results.toList .keep [.rp 73 [(⟨L⟩ : Ev.Mem72)] 0 0, .v (.int .i64 n), .v (.int .i64 o)] =
    if (!hasM L n o) = true then three (.tup [.v (.int .i64 0), .v (.bool false)]) else if 0 ≤ n then if n < L.length then if 0 ≤ o then if o < (L.getD n.toNat []).length then three (.tup [.v (.int .i64 ((L.getD n.toNat []).getD o.toNat 0)), .v (.bool true)]) else none else none else none else none := by kernel_rfl
def S22 : List (AV Ty) → T (AV Ty × List (AV Ty))
  | [.rp 73 [⟨L⟩] 0 0, .v (.int .i64 n), .v (.int .i64 o)] => .ret (.tup [.v (.int .i64 (loadM L n o)), .v (.bool (hasM L n o))], [.dead, .dead, .dead])
  | _ => .fail
theorem S22_ok (l : List (AV Ty)) (r : AV Ty) (outs : List (AV Ty)) (h : (S22 l).val = some (r, outs)) : CallOk tb Try.prog 22 l r outs := by
  unfold S22 at h
  split at h
  · rename_i L n o
    cases h
    refine fn_ok tbOk good (fun f mu S h => ?_) mixed (fn := Try.f22) (body := b22) (by kernel_rfl) (by kernel_rfl) rfl rfl (by show 3 ≤ 23; omega) ((e22 L n o).trans ?_)
    · unfold C22 at h
      simp only at h
      split at h
      · cases h; exact ⟨in48, S48_ok⟩
      · cases h
    · unfold loadM
      cases hh : hasM L n o with
      | false => rfl
      | true =>
        obtain ⟨h1, h2, h3, h4⟩ := hasM_in hh
        rw [if_neg (by simp), if_pos h1, if_pos h2, if_pos h3, if_pos h4]
        rfl
  · cases h
theorem in22 : Entered 22 := ⟨Try.f22, b22, by kernel_rfl, by kernel_rfl, by kernel_rfl⟩
noncomputable def b23 : Code := bodyOf Try.f23
def C23 : Cfg Ty := ⟨fun
  | 28 => some ([], S28)
  | _ => none, fun _ => false, 27, 0⟩
theorem e23 (L : List (List Int)) (n o : Int) : evalF tb C23 U0 1 b23 Try.f23.results.toList .keep [.rp 29 [(⟨L⟩ : Ev.Mem)] 0 0, .v (.int .i64 n), .v (.int .i64 o)] =
    if decide (o < 0) = false then if decide (o ≥ sizeM L n) = true then three (.tup [.v (.int .i64 0), .v (.bool false)]) else if 0 ≤ n then if n < L.length then if 0 ≤ o then if o < (L.getD n.toNat []).length then three (.tup [.v (.int .i64 ((L.getD n.toNat []).getD o.toNat 0)), .v (.bool true)]) else none else none else none else none else three (.tup [.v (.int .i64 0), .v (.bool false)]) := by kernel_rfl
def S23 : List (AV Ty) → T (AV Ty × List (AV Ty))
  | [.rp 29 [⟨L⟩] 0 0, .v (.int .i64 n), .v (.int .i64 o)] => .ret (.tup [.v (.int .i64 (loadM L n o)), .v (.bool (hasM L n o))], [.dead, .dead, .dead])
  | _ => .fail
theorem S23_ok (l : List (AV Ty)) (r : AV Ty) (outs : List (AV Ty)) (h : (S23 l).val = some (r, outs)) : CallOk tb Try.prog 23 l r outs := by
  unfold S23 at h
  split at h
  · rename_i L n o
    cases h
    refine fn_ok tbOk good (fun f mu S h => ?_) mixed (fn := Try.f23) (body := b23) (by kernel_rfl) (by kernel_rfl) rfl rfl (by show 3 ≤ 27; omega) ((e23 L n o).trans ?_)
    · unfold C23 at h
      simp only at h
      split at h
      · cases h; exact ⟨in28, S28_ok⟩
      · cases h
    · unfold loadM
      cases hh : hasM L n o with
      | false =>
        have hh := of_decide_eq_false hh
        by_cases h0 : o < 0
        · rw [if_neg (by simp [h0])]; rfl
        · rw [if_pos (by simp [h0]), if_pos (by simp; omega)]; rfl
      | true =>
        obtain ⟨h1, h2, h3, h4⟩ := hasM_in hh
        have hh := of_decide_eq_true hh
        rw [if_pos (by simp; omega), if_neg (by simp; omega), if_pos h1, if_pos h2, if_pos h3, if_pos h4]
        rfl
  · cases h
theorem in23 : Entered 23 := ⟨Try.f23, b23, by kernel_rfl, by kernel_rfl, by kernel_rfl⟩
-- Store
def storeM (L : List (List Int)) (n o v : Int) : List (List Int) := if hasM L n o = true then L.set n.toNat ((L.getD n.toNat []).set o.toNat v) else L
noncomputable def b24 : Code := bodyOf Try.f24
def C24 : Cfg Ty := ⟨fun
  | 48 => some ([], S48)
  | _ => none, fun _ => false, 24, 1⟩
theorem e24 (L : List (List Int)) (n o v : Int) : evalF tb C24 U0 1 b24 Try.f24.results.toList .keep [.box true 73 (⟨L⟩ : Ev.Mem72), .v (.int .i64 n), .v (.int .i64 o), .v (.int .i64 v)] =
    if (!hasM L n o) = true then some (.v (.bool false), [.box true 73 (⟨L⟩ : Ev.Mem72), .dead, .dead, .dead]) else if 0 ≤ n then if n < L.length then if 0 ≤ o then if o < (L.getD (0 + n.toNat) []).length then some (.v (.bool true), [.box true 73 (⟨L.set (0 + n.toNat) ((L.getD (0 + n.toNat) []).set (0 + o.toNat) v)⟩ : Ev.Mem72), .dead, .dead, .dead]) else none else none else none else none := by kernel_rfl
def S24 : List (AV Ty) → T (AV Ty × List (AV Ty))
  | [.box true 73 ⟨L⟩, .v (.int .i64 n), .v (.int .i64 o), .v (.int .i64 v)] => .ret (.v (.bool (hasM L n o)), [.box true 73 (⟨storeM L n o v⟩ : Ev.Mem72), .dead, .dead, .dead])
  | _ => .fail
theorem S24_ok (l : List (AV Ty)) (r : AV Ty) (outs : List (AV Ty)) (h : (S24 l).val = some (r, outs)) : CallOk tb Try.prog 24 l r outs := by
  unfold S24 at h
  split at h
  · rename_i L n o v
    cases h
    refine fn_ok tbOk good (fun f mu S h => ?_) mixed (fn := Try.f24) (body := b24) (by kernel_rfl) (by kernel_rfl) rfl rfl (by show 4 ≤ 24; omega) ((e24 L n o v).trans ?_)
    · unfold C24 at h
      simp only at h
      split at h
      · cases h; exact ⟨in48, S48_ok⟩
      · cases h
    · unfold storeM
      cases hh : hasM L n o with
      | false => rfl
      | true =>
        obtain ⟨h1, h2, h3, h4⟩ := hasM_in hh
        rw [Nat.zero_add, Nat.zero_add, if_neg (by simp), if_pos h1, if_pos h2, if_pos h3, if_pos h4]
        rfl
  · cases h
theorem in24 : Entered 24 := ⟨Try.f24, b24, by kernel_rfl, by kernel_rfl, by kernel_rfl⟩
noncomputable def b25 : Code := bodyOf Try.f25
def C25 : Cfg Ty := ⟨fun
  | 28 => some ([], S28)
  | _ => none, fun _ => false, 28, 1⟩
theorem e25 (L : List (List Int)) (n o v : Int) : evalF tb C25 U0 1 b25 Try.f25.results.toList .keep [.box true 29 (⟨L⟩ : Ev.Mem), .v (.int .i64 n), .v (.int .i64 o), .v (.int .i64 v)] =
    if decide (o < 0) = false then if decide (o ≥ sizeM L n) = true then some (.v (.bool false), [.box true 29 (⟨L⟩ : Ev.Mem), .dead, .dead, .dead]) else if 0 ≤ n then if n < L.length then if 0 ≤ o then if o < (L.getD (0 + n.toNat) []).length then some (.v (.bool true), [.box true 29 (⟨L.set (0 + n.toNat) ((L.getD (0 + n.toNat) []).set (0 + o.toNat) v)⟩ : Ev.Mem), .dead, .dead, .dead]) else none else none else none else none else some (.v (.bool false), [.box true 29 (⟨L⟩ : Ev.Mem), .dead, .dead, .dead]) := by kernel_rfl
def S25 : List (AV Ty) → T (AV Ty × List (AV Ty))
  | [.box true 29 ⟨L⟩, .v (.int .i64 n), .v (.int .i64 o), .v (.int .i64 v)] => .ret (.v (.bool (hasM L n o)), [.box true 29 (⟨storeM L n o v⟩ : Ev.Mem), .dead, .dead, .dead])
  | _ => .fail
theorem S25_ok (l : List (AV Ty)) (r : AV Ty) (outs : List (AV Ty)) (h : (S25 l).val = some (r, outs)) : CallOk tb Try.prog 25 l r outs := by
  unfold S25 at h
  split at h
  · rename_i L n o v
    cases h
    refine fn_ok tbOk good (fun f mu S h => ?_) mixed (fn := Try.f25) (body := b25) (by kernel_rfl) (by kernel_rfl) rfl rfl (by show 4 ≤ 28; omega) ((e25 L n o v).trans ?_)
    · unfold C25 at h
      simp only at h
      split at h
      · cases h; exact ⟨in28, S28_ok⟩
      · cases h
    · unfold storeM
      cases hh : hasM L n o with
      | false =>
        have hh := of_decide_eq_false hh
        by_cases h0 : o < 0
        · rw [if_neg (by simp [h0])]; rfl
        · rw [if_pos (by simp [h0]), if_pos (by simp; omega)]; rfl
      | true =>
        obtain ⟨h1, h2, h3, h4⟩ := hasM_in hh
        have hh := of_decide_eq_true hh
        rw [Nat.zero_add, Nat.zero_add, if_pos (by simp; omega), if_neg (by simp; omega), if_pos h1, if_pos h2, if_pos h3, if_pos h4]
        rfl
  · cases h
theorem in25 : Entered 25 := ⟨Try.f25, b25, by kernel_rfl, by kernel_rfl, by kernel_rfl⟩
end Go.Proofs.Ytnibdgjlbhdmfaa.Ev
