/- plnlaw7.LexJoined, walked: whatever lex.Lines answers, if it answers alike. -/
import Derived.Test.YtnibdgjlbhdmfaaEvK0
import Derived.Test.YtnibdgjlbhdmfaaEvTr
namespace Go.Proofs.Ytnibdgjlbhdmfaa.Ev
open Go
set_option linter.unusedVariables false
set_option linter.unusedSimpArgs false
def S29 : List (AV Ty) → T (AV Ty × List (AV Ty))
  | [] => .ret (.v (.bool true), [])
  | _ => .fail
def S30 (LA : ByteArray → List Ev.Line) (AT ER : ByteArray → Int) : List (AV Ty) → T (AV Ty × List (AV Ty))
  | [.v (.string s)] => .ite (s.size ≤ 4194304) inferInstance (.ret (.tup [.sl false 49 (LA s), .v (.int .i64 (AT s)), .v (.int .i64 (ER s))], [.dead])) .fail
  | _ => .fail
noncomputable def b7 : Code := bodyOf Try.f7
def C7 (LA : ByteArray → List Ev.Line) (AT ER : ByteArray → Int) : Cfg Ty := ⟨fun
  | 29 => some ([], S29)
  | 30 => some ([], S30 LA AT ER)
  | _ => none, fun _ => false, 148, 0⟩
def U7 : Cuts := ⟨fun
  | 0 => some []
  | 1 => some [(0, none), (5, none), (8, none), (11, none), (14, none)]
  | 2 => some [(0, none), (5, none), (8, none), (11, none), (14, none)]
  | _ => none, fun
  | 0 => some [(0, none), (5, none), (8, none), (11, none), (14, none)]
  | 2 => some [(0, none), (5, none), (8, none), (11, none), (14, none), (15, none), (16, none), (17, none)]
  | _ => none, fun _ => none⟩
/-- join 0: live:  -/
noncomputable def k7_j0 : List Item := [.code (sndC (sndC (sndC (sndC (sndC (sndC (sndC (sndC (sndC b7)))))))))]
/-- loop 0: live: 0, 5, 8, 11, 14 -/
noncomputable def k7_l0 : List Item := [.code (inC (inC (sndC (fstC (sndC (sndC (sndC (sndC (sndC (sndC (sndC (sndC b7)))))))))))), .inLoop (inC (inC (sndC (fstC (sndC (sndC (sndC (sndC (sndC (sndC (sndC (sndC b7)))))))))))), .inBlock 0, .code (sndC (sndC (sndC (sndC (sndC (sndC (sndC (sndC (sndC b7)))))))))]
/-- join 1: live: 0, 5, 8, 11, 14 -/
noncomputable def k7_j1 : List Item := [.code (sndC (sndC (inC (inC (sndC (fstC (sndC (sndC (sndC (sndC (sndC (sndC (sndC (sndC b7)))))))))))))), .inLoop (inC (inC (sndC (fstC (sndC (sndC (sndC (sndC (sndC (sndC (sndC (sndC b7)))))))))))), .inBlock 0, .code (sndC (sndC (sndC (sndC (sndC (sndC (sndC (sndC (sndC b7)))))))))]
/-- join 2: live: 0, 5, 8, 11, 14 -/
noncomputable def k7_j2 : List Item := [.inBlock 1, .code (sndC (sndC (inC (inC (sndC (fstC (sndC (sndC (sndC (sndC (sndC (sndC (sndC (sndC b7)))))))))))))), .inLoop (inC (inC (sndC (fstC (sndC (sndC (sndC (sndC (sndC (sndC (sndC (sndC b7)))))))))))), .inBlock 0, .code (sndC (sndC (sndC (sndC (sndC (sndC (sndC (sndC (sndC b7)))))))))]
/-- loop 2: live: 0, 5, 8, 11, 14, 15, 16, 17 -/
noncomputable def k7_l2 : List Item := [.code (inC (inC (sndC (sndC (sndC (sndC (inC (fstC (sndC (inC (inC (sndC (fstC (sndC (sndC (sndC (sndC (sndC (sndC (sndC (sndC b7))))))))))))))))))))), .inLoop (inC (inC (sndC (sndC (sndC (sndC (inC (fstC (sndC (inC (inC (sndC (fstC (sndC (sndC (sndC (sndC (sndC (sndC (sndC (sndC b7))))))))))))))))))))), .inBlock 2, .inBlock 1, .code (sndC (sndC (inC (inC (sndC (fstC (sndC (sndC (sndC (sndC (sndC (sndC (sndC (sndC b7)))))))))))))), .inLoop (inC (inC (sndC (fstC (sndC (sndC (sndC (sndC (sndC (sndC (sndC (sndC b7)))))))))))), .inBlock 0, .code (sndC (sndC (sndC (sndC (sndC (sndC (sndC (sndC (sndC b7)))))))))]
def jnl : ByteArray := ⟨#[10]⟩
def two (q : Bool) : Option (AV Ty × List (AV Ty)) := some (.v (.bool q), [.dead, .dead])
section
variable (LA : ByteArray → List Ev.Line) (AT ER : ByteArray → Int) (a b : ByteArray)
noncomputable def R7 : St Ty → Option (AV Ty × List (AV Ty)) := resT tb (C7 LA AT ER) Try.f7.results.toList .keep [.v (.string a), .v (.string b)]
variable (J : List Item → St Ty → Option (AV Ty × List (AV Ty))) (x y z : List Ev.Line) (i k w : Int) (ws : List Ev.Word)
def s7 : St Ty := ⟨[(0, .v (.string a)), (5, .sl false 49 x), (8, .sl false 49 y), (11, .sl false 49 z), (14, .v (.int .i64 i))], []⟩
def m7 : St Ty := ⟨[(0, .v (.string a)), (5, .sl false 49 x), (8, .sl false 49 y), (11, .sl false 49 z), (14, .v (.int .i64 i)), (15, .ptr 0 [] 0 0), (16, .v (.int .i64 w)), (17, .v (.int .i64 k))], [some ⟨49, false, [(⟨ws⟩ : Ev.Line)]⟩]⟩
theorem e7 : run tb (C7 LA AT ER) U7 J (R7 LA AT ER a b) 4096 [.code b7] ⟨slotsA [.v (.string a), .v (.string b)] 0 0, heapA [.v (.string a), .v (.string b)]⟩ =
    if decide ((a.size : Int) > 500) = false then if decide ((b.size : Int) > 500) = true then two true
    else if a.size ≤ 4194304 then if b.size ≤ 4194304 then
      if ((a.size + jnl.size : Nat) : Int) > IntKind.i64.max then none
      else if (((a ++ jnl).size + b.size : Nat) : Int) > IntKind.i64.max then none
      else if (a ++ jnl ++ b).size ≤ 4194304 then
        if (ER a != 0) = false then
          if (ER b != 0) = true then two (ER (a ++ jnl ++ b) == 1)
          else if (ER (a ++ jnl ++ b) != 0) = false then
            if (((LA (a ++ jnl ++ b)).length : Int) != IntKind.i64.wrap ((LA a).length + (LA b).length)) = true then two false
            else J k7_l0 (s7 a (LA a) (LA b) (LA (a ++ jnl ++ b)) 0)
          else two false
        else two (ER (a ++ jnl ++ b) == 1)
      else none
    else none else none
    else two true := by kernel_rfl
theorem e7_l0 : run tb (C7 LA AT ER) U7 J (R7 LA AT ER a b) 4096 k7_l0 (s7 a x y z i) =
    if decide (i < z.length) = true then
      if decide (i < x.length) = true then
        if 0 ≤ i then if i < x.length then if 0 ≤ i then if i < z.length then
          if (((x.getD i.toNat ⟨[]⟩).words.length : Int) != (z.getD i.toNat ⟨[]⟩).words.length) = true then two false
          else J k7_l2 (m7 a x y z i 0 0 (x.getD i.toNat ⟨[]⟩).words)
        else none else none else none else none
      else if 0 ≤ IntKind.i64.wrap (i - x.length) then if IntKind.i64.wrap (i - x.length) < y.length then if 0 ≤ i then if i < z.length then
          if (((y.getD (IntKind.i64.wrap (i - x.length)).toNat ⟨[]⟩).words.length : Int) != (z.getD i.toNat ⟨[]⟩).words.length) = true then two false
          else J k7_l2 (m7 a x y z i 0 (IntKind.i64.wrap (a.size + 1)) (y.getD (IntKind.i64.wrap (i - x.length)).toNat ⟨[]⟩).words)
        else none else none else none else none
    else J k7_j0 ⟨[], []⟩ := by kernel_rfl
theorem e7_l2 : run tb (C7 LA AT ER) U7 J (R7 LA AT ER a b) 4096 k7_l2 (m7 a x y z i k w ws) =
    if decide (k < ws.length) = true then
      if 0 ≤ k then if k < ws.length then if 0 ≤ i then if i < z.length then if 0 ≤ k then if k < (z.getD i.toNat ⟨[]⟩).words.length then
        if (!((ws.getD k.toNat ⟨ByteArray.empty, 0⟩).text.toList == ((z.getD i.toNat ⟨[]⟩).words.getD k.toNat ⟨ByteArray.empty, 0⟩).text.toList)) = false then
          if 0 ≤ k then if k < ws.length then if 0 ≤ i then if i < z.length then if 0 ≤ k then if k < (z.getD i.toNat ⟨[]⟩).words.length then
            if ((ws.getD k.toNat ⟨ByteArray.empty, 0⟩).at_ != IntKind.i64.wrap (((z.getD i.toNat ⟨[]⟩).words.getD k.toNat ⟨ByteArray.empty, 0⟩).at_ - w)) = true then two false
            else J k7_l2 (m7 a x y z i (IntKind.i64.wrap (k + 1)) w ws)
          else none else none else none else none else none else none
        else two false
      else none else none else none else none else none else none
    else J k7_j2 (s7 a x y z i) := by kernel_rfl
theorem e7_j2 : run tb (C7 LA AT ER) U7 J (R7 LA AT ER a b) 4096 k7_j2 (s7 a x y z i) = J k7_j1 (s7 a x y z i) := by kernel_rfl
theorem e7_j1 : run tb (C7 LA AT ER) U7 J (R7 LA AT ER a b) 4096 k7_j1 (s7 a x y z i) = J k7_l0 (s7 a x y z (IntKind.i64.wrap (i + 1))) := by kernel_rfl
theorem e7_j0 : run tb (C7 LA AT ER) U7 J (R7 LA AT ER a b) 4096 k7_j0 ⟨[], []⟩ = two true := by kernel_rfl
end
def shEW (d : Nat) (w : Ev.Word) : Ev.Word := ⟨w.text, w.at_ + d⟩
def shEL (d : Nat) (l : Ev.Line) : Ev.Line := ⟨l.words.map (shEW d)⟩
def lowL (l : Ev.Line) : Prop := l.words.length ≤ 1000000 ∧ ∀ w, w ∈ l.words → 0 ≤ w.at_ ∧ w.at_ ≤ 1000000
section
variable {LA : ByteArray → List Ev.Line} {AT ER : ByteArray → Int} {a b : ByteArray} {x y z : List Ev.Line} {i w : Nat} {ws : List Ev.Word}
theorem l7_2 (hi : i < z.length) (hl : ws.length = (z.getD i ⟨[]⟩).words.length) (hb : ws.length ≤ 1000000)
    (hw : ∀ k, k < ws.length → (ws.getD k ⟨ByteArray.empty, 0⟩).text = ((z.getD i ⟨[]⟩).words.getD k ⟨ByteArray.empty, 0⟩).text ∧ (ws.getD k ⟨ByteArray.empty, 0⟩).at_ = IntKind.i64.wrap (((z.getD i ⟨[]⟩).words.getD k ⟨ByteArray.empty, 0⟩).at_ - (w : Int))) :
    ∀ m k : Nat, k + m = ws.length → ∃ n0, ∀ n, walk tb (C7 LA AT ER) U7 (R7 LA AT ER a b) (n + n0) k7_l2 (m7 a x y z i k w ws) = walk tb (C7 LA AT ER) U7 (R7 LA AT ER a b) n k7_j2 (s7 a x y z i)
  | 0, k, h => by
    refine ⟨1, fun n => ?_⟩
    rw [walk_succ, e7_l2, if_neg (by rw [decide_eq_true_eq]; omega)]
  | m + 1, k, h => by
    obtain ⟨n0, hn⟩ := l7_2 hi hl hb hw m (k + 1) (by omega)
    obtain ⟨h1, h2⟩ := hw k (by omega)
    refine ⟨n0 + 1, fun n => ?_⟩
    rw [← Nat.add_assoc, walk_succ, e7_l2, if_pos (decide_eq_true (by omega)), if_pos (by omega), if_pos (by omega), if_pos (by omega), if_pos (by omega), if_pos (by omega)]
    simp only [Int.toNat_natCast]
    rw [if_pos (by omega), if_pos (by rw [h1]; simp), if_pos (by omega), if_pos (by omega), if_pos (by omega), if_pos (by omega), if_pos (by omega), if_pos (by omega), if_neg (by rw [← h2]; simp), wrap_up (by omega), show ((k : Int) + 1) = ((k + 1 : Nat) : Int) by omega, hn]
theorem getD_lt {α : Type} {l : List α} {i : Nat} {d : α} (h : i < l.length) : l.getD i d = l[i] := by rw [List.getD_eq_getElem?_getD, List.getElem?_eq_getElem h]; rfl
theorem l7_0 (ha : a.size ≤ 500) (hx : x.length ≤ 1000000) (hy : y.length ≤ 1000000) (lx : ∀ l, l ∈ x → lowL l) (ly : ∀ l, l ∈ y → lowL l) (hz : z = x ++ y.map (shEL (a.size + 1))) :
    ∀ m i : Nat, i + m = z.length → ∃ n, walk tb (C7 LA AT ER) U7 (R7 LA AT ER a b) n k7_l0 (s7 a x y z i) = two true
  | 0, i, h => by
    refine ⟨2, ?_⟩
    rw [walk_succ, e7_l0, if_neg (by rw [decide_eq_true_eq]; omega), walk_succ, e7_j0]
  | m + 1, i, h => by
    have hzl : z.length = x.length + y.length := by rw [hz]; simp
    obtain ⟨n1, hn1⟩ := l7_0 ha hx hy lx ly hz m (i + 1) (by omega)
    by_cases hi : i < x.length
    · have hzi : z.getD i ⟨[]⟩ = x.getD i ⟨[]⟩ := by
        rw [getD_lt (by omega), getD_lt hi]
        simp only [hz]
        rw [List.getElem_append_left hi]
      obtain ⟨b1, b2⟩ := lx _ (List.getElem_mem hi)
      rw [← getD_lt (d := ⟨[]⟩) hi] at b1 b2
      obtain ⟨n0, hn0⟩ := l7_2 (LA := LA) (AT := AT) (ER := ER) (a := a) (b := b) (x := x) (y := y) (z := z) (i := i) (w := 0) (ws := (x.getD i ⟨[]⟩).words) (by omega) (by rw [hzi]) b1 (fun k hk => by
        rw [hzi]
        refine ⟨rfl, ?_⟩
        have := b2 _ (List.getElem_mem hk)
        rw [← getD_lt (d := ⟨ByteArray.empty, 0⟩) hk] at this
        rw [wrap_up (by omega)]
        omega) _ 0 (Nat.zero_add _)
      refine ⟨n1 + 1 + 1 + n0 + 1, ?_⟩
      rw [walk_succ, e7_l0, if_pos (decide_eq_true (by omega)), if_pos (decide_eq_true (by omega)), if_pos (by omega), if_pos (by omega), if_pos (by omega), if_pos (by omega)]
      simp only [Int.toNat_natCast]
      rw [if_neg (by rw [hzi]; simp)]
      have := hn0 (n1 + 1 + 1)
      rw [show ((0 : Nat) : Int) = 0 from rfl] at this
      rw [this, walk_succ, e7_j2, walk_succ, e7_j1, wrap_up (by omega), show ((i : Int) + 1) = ((i + 1 : Nat) : Int) by omega, hn1]
    · have hj : i - x.length < y.length := by omega
      have hsub : IntKind.i64.wrap ((i : Int) - x.length) = ((i - x.length : Nat) : Int) := by rw [wrap_up (by omega)]; omega
      have hzi : z.getD i ⟨[]⟩ = shEL (a.size + 1) (y.getD (i - x.length) ⟨[]⟩) := by
        rw [getD_lt (by omega), getD_lt hj]
        simp only [hz]
        rw [List.getElem_append_right (by omega), List.getElem_map]
      obtain ⟨b1, b2⟩ := ly _ (List.getElem_mem hj)
      rw [← getD_lt (d := ⟨[]⟩) hj] at b1 b2
      have hlen : (y.getD (i - x.length) ⟨[]⟩).words.length = (z.getD i ⟨[]⟩).words.length := by rw [hzi]; simp [shEL]
      obtain ⟨n0, hn0⟩ := l7_2 (LA := LA) (AT := AT) (ER := ER) (a := a) (b := b) (x := x) (y := y) (z := z) (i := i) (w := a.size + 1) (ws := (y.getD (i - x.length) ⟨[]⟩).words) (by omega) hlen b1 (fun k hk => by
        rw [hzi]
        have hk2 : k < (shEL (a.size + 1) (y.getD (i - x.length) ⟨[]⟩)).words.length := by simpa [shEL] using hk
        have e : (shEL (a.size + 1) (y.getD (i - x.length) ⟨[]⟩)).words.getD k ⟨ByteArray.empty, 0⟩ = shEW (a.size + 1) ((y.getD (i - x.length) ⟨[]⟩).words.getD k ⟨ByteArray.empty, 0⟩) := by
          rw [getD_lt hk2, getD_lt hk]
          simp only [shEL, List.getElem_map]
        rw [e]
        refine ⟨rfl, ?_⟩
        have := b2 _ (List.getElem_mem hk)
        rw [← getD_lt (d := ⟨ByteArray.empty, 0⟩) hk] at this
        show _ = IntKind.i64.wrap (_ + ((a.size + 1 : Nat) : Int) - ((a.size + 1 : Nat) : Int))
        rw [wrap_up (by omega)]
        omega) _ 0 (Nat.zero_add _)
      refine ⟨n1 + 1 + 1 + n0 + 1, ?_⟩
      rw [walk_succ, e7_l0, if_pos (decide_eq_true (by omega)), if_neg (by rw [decide_eq_true_eq]; omega), hsub, if_pos (by omega), if_pos (by omega), if_pos (by omega), if_pos (by omega)]
      simp only [Int.toNat_natCast]
      rw [if_neg (by rw [hlen]; simp), show IntKind.i64.wrap ((a.size : Int) + 1) = ((a.size + 1 : Nat) : Int) by rw [wrap_up (by omega)]; omega]
      have := hn0 (n1 + 1 + 1)
      rw [show ((0 : Nat) : Int) = 0 from rfl] at this
      rw [this, walk_succ, e7_j2, walk_succ, e7_j1, wrap_up (by omega), show ((i : Int) + 1) = ((i + 1 : Nat) : Int) by omega, hn1]
/-- What lex.Lines must answer. -/
structure Alike (LA : ByteArray → List Ev.Line) (ER : ByteArray → Int) (a b : ByteArray) : Prop where
  wrong : ER a ≠ 0 ∨ ER b ≠ 0 → ER (a ++ jnl ++ b) = 1
  right : ER a = 0 → ER b = 0 → ER (a ++ jnl ++ b) = 0 ∧ LA (a ++ jnl ++ b) = LA a ++ (LA b).map (shEL (a.size + 1))
  la : (LA a).length ≤ 1000000 ∧ ∀ l, l ∈ LA a → lowL l
  lb : (LA b).length ≤ 1000000 ∧ ∀ l, l ∈ LA b → lowL l
theorem joined_walk (h : a.size ≤ 500 → b.size ≤ 500 → Alike LA ER a b) : ∃ n, evalF tb (C7 LA AT ER) U7 n b7 Try.f7.results.toList .keep [.v (.string a), .v (.string b)] = two true := by
  by_cases ha : a.size ≤ 500
  · by_cases hb : b.size ≤ 500
    · have H := h ha hb
      have s1 : (a ++ jnl).size = a.size + 1 := by rw [ByteArray.size_append]; rfl
      have s2 : (a ++ jnl ++ b).size = a.size + 1 + b.size := by rw [ByteArray.size_append, s1]
      have mx : IntKind.i64.max = 9223372036854775807 := by decide
      have js : jnl.size = 1 := rfl
      have start : ∀ (J : List Item → St Ty → Option (AV Ty × List (AV Ty))), run tb (C7 LA AT ER) U7 J (R7 LA AT ER a b) 4096 [.code b7] ⟨slotsA [.v (.string a), .v (.string b)] 0 0, heapA [.v (.string a), .v (.string b)]⟩ =
          if (ER a != 0) = false then
          if (ER b != 0) = true then two (ER (a ++ jnl ++ b) == 1)
          else if (ER (a ++ jnl ++ b) != 0) = false then
            if (((LA (a ++ jnl ++ b)).length : Int) != IntKind.i64.wrap ((LA a).length + (LA b).length)) = true then two false
            else J k7_l0 (s7 a (LA a) (LA b) (LA (a ++ jnl ++ b)) 0)
          else two false
        else two (ER (a ++ jnl ++ b) == 1) := fun J => by
        rw [e7, if_pos (decide_eq_false (by omega)), if_neg (by rw [decide_eq_true_eq]; omega), if_pos (by omega), if_pos (by omega), if_neg (by rw [mx, js]; omega), if_neg (by rw [mx, s1]; omega), if_pos (by omega)]
      by_cases c1 : ER a = 0
      · by_cases c2 : ER b = 0
        · obtain ⟨r1, r2⟩ := H.right c1 c2
          have hlen : ((LA (a ++ jnl ++ b)).length : Int) = IntKind.i64.wrap ((LA a).length + (LA b).length) := by
            have := H.la.1
            have := H.lb.1
            rw [wrap_up (by omega), r2]
            simp
          obtain ⟨n, hn⟩ := l7_0 (LA := LA) (AT := AT) (ER := ER) (a := a) (b := b) ha H.la.1 H.lb.1 H.la.2 H.lb.2 r2 (LA (a ++ jnl ++ b)).length 0 (Nat.zero_add _)
          refine ⟨n + 1, (start _).trans ?_⟩
          rw [if_pos (by simp [c1]), if_neg (by simp [c2]), if_pos (by simp [r1]), if_neg (by rw [← hlen]; simp)]
          exact hn
        · refine ⟨1, (start _).trans ?_⟩
          rw [if_pos (by simp [c1]), if_pos (by simp [c2]), H.wrong (.inr c2)]
          rfl
      · refine ⟨1, (start _).trans ?_⟩
        rw [if_neg (by simp [c1]), H.wrong (.inl c1)]
        rfl
    · refine ⟨1, (e7 LA AT ER a b _).trans ?_⟩
      rw [if_pos (decide_eq_false (by omega)), if_pos (decide_eq_true (by omega))]
  · refine ⟨1, (e7 LA AT ER a b _).trans ?_⟩
    rw [if_neg (by simp; omega)]
end
end Go.Proofs.Ytnibdgjlbhdmfaa.Ev
