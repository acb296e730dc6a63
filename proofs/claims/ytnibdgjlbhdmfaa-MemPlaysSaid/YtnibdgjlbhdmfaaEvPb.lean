/- plnlaw10.MemPlays: any calls: the program's memory and the document's answer alike. -/
import Derived.Test.YtnibdgjlbhdmfaaEvPa
namespace Go.Proofs.Ytnibdgjlbhdmfaa.Ev
open Go
set_option linter.unusedVariables false
set_option linter.unusedSimpArgs false
noncomputable def b18 : Code := bodyOf Try.f18
def C18 : Cfg Ty := ⟨fun
  | 19 => some ([], S19)
  | 20 => some ([true], S20)
  | 22 => some ([], S22)
  | 26 => some ([], S26)
  | 27 => some ([], S27)
  | _ => none, fun _ => false, 35, 0⟩
theorem e18 : evalF tb C18 U0 1 b18 Try.f18.results.toList .keep [] = some (.v (.bool (sizeM (addM [] [5, 6]) 0 == 2)), []) := by kernel_rfl
def S18 : List (AV Ty) → T (AV Ty × List (AV Ty))
  | [] => .ret (.v (.bool true), [])
  | _ => .fail
theorem S18_ok (l : List (AV Ty)) (r : AV Ty) (outs : List (AV Ty)) (h : (S18 l).val = some (r, outs)) : CallOk tb Try.prog 18 l r outs := by
  unfold S18 at h
  split at h
  · cases h
    refine fn_ok tbOk good (fun f mu S h => ?_) mixed (fn := Try.f18) (body := b18) (by kernel_rfl) (by kernel_rfl) rfl rfl (by show 0 ≤ 35; omega) e18
    unfold C18 at h
    simp only at h
    split at h
    · cases h; exact ⟨in19, S19_ok⟩
    · cases h; exact ⟨in20, S20_ok⟩
    · cases h; exact ⟨in22, S22_ok⟩
    · cases h; exact ⟨in26, S26_ok⟩
    · cases h; exact ⟨in27, S27_ok⟩
    · cases h
  · cases h
theorem in18 : Entered 18 := ⟨Try.f18, b18, by kernel_rfl, by kernel_rfl, by kernel_rfl⟩
noncomputable def b3 : Code := bodyOf Try.f3
def C3 : Cfg Ty := ⟨fun
  | 18 => some ([], S18)
  | 19 => some ([], S19)
  | 20 => some ([true], S20)
  | 21 => some ([true], S21)
  | 22 => some ([], S22)
  | 23 => some ([], S23)
  | 24 => some ([true], S24)
  | 25 => some ([true], S25)
  | 26 => some ([], S26)
  | 27 => some ([], S27)
  | 28 => some ([], S28)
  | _ => none, fun
  | 25 => true
  | _ => false, 163, 0⟩
def U3 : Cuts := ⟨fun
  | 0 => some [(3, none), (4, none)]
  | 3 => some []
  | 4 => some [(3, none), (4, none), (11, none)]
  | 5 => some [(3, none), (4, none), (11, none)]
  | _ => none, fun
  | 0 => some [(0, none), (3, none), (4, none), (5, none)]
  | 3 => some [(3, none), (4, none), (11, none)]
  | 5 => some [(3, none), (4, none), (11, none), (12, none)]
  | _ => none, fun
  | 15 => some [0, 1, 2, 3, 4, 5, 6, 8, 9, 10, 11, 12, 13, 14, 7, 15, 16]
  | 18 => some [0, 1, 2, 4, 5, 6, 3, 7, 8]
  | 25 => some [0, 2, 3, 4, 5, 6, 1, 7, 8, 9, 10, 11, 13, 14, 15, 12, 16, 17, 18]
  | _ => none⟩
/-- join 0: live: 3, 4 -/
noncomputable def k3_j0 : List Item := [.code (sndC (sndC (sndC (sndC (sndC (sndC b3))))))]
/-- loop 0: live: 0, 3, 4, 5 -/
noncomputable def k3_l0 : List Item := [.code (inC (inC (sndC (fstC (sndC (sndC (sndC (sndC (sndC b3))))))))), .inLoop (inC (inC (sndC (fstC (sndC (sndC (sndC (sndC (sndC b3))))))))), .inBlock 0, .code (sndC (sndC (sndC (sndC (sndC (sndC b3))))))]
/-- join 3: live:  -/
noncomputable def k3_j3 : List Item := [.code (sndC (sndC (sndC (sndC (sndC (sndC (sndC b3)))))))]
/-- loop 3: live: 3, 4, 11 -/
noncomputable def k3_l3 : List Item := [.code (inC (inC (sndC (fstC (sndC (sndC (sndC (sndC (sndC (sndC b3)))))))))), .inLoop (inC (inC (sndC (fstC (sndC (sndC (sndC (sndC (sndC (sndC b3)))))))))), .inBlock 3, .code (sndC (sndC (sndC (sndC (sndC (sndC (sndC b3)))))))]
/-- join 4: live: 3, 4, 11 -/
noncomputable def k3_j4 : List Item := [.code (sndC (sndC (inC (inC (sndC (fstC (sndC (sndC (sndC (sndC (sndC (sndC b3)))))))))))), .inLoop (inC (inC (sndC (fstC (sndC (sndC (sndC (sndC (sndC (sndC b3)))))))))), .inBlock 3, .code (sndC (sndC (sndC (sndC (sndC (sndC (sndC b3)))))))]
/-- join 5: live: 3, 4, 11 -/
noncomputable def k3_j5 : List Item := [.inBlock 4, .code (sndC (sndC (inC (inC (sndC (fstC (sndC (sndC (sndC (sndC (sndC (sndC b3)))))))))))), .inLoop (inC (inC (sndC (fstC (sndC (sndC (sndC (sndC (sndC (sndC b3)))))))))), .inBlock 3, .code (sndC (sndC (sndC (sndC (sndC (sndC (sndC b3)))))))]
/-- loop 5: live: 3, 4, 11, 12 -/
noncomputable def k3_l5 : List Item := [.code (inC (inC (sndC (inC (fstC (sndC (inC (inC (sndC (fstC (sndC (sndC (sndC (sndC (sndC (sndC b3)))))))))))))))), .inLoop (inC (inC (sndC (inC (fstC (sndC (inC (inC (sndC (fstC (sndC (sndC (sndC (sndC (sndC (sndC b3)))))))))))))))), .inBlock 5, .inBlock 4, .code (sndC (sndC (inC (inC (sndC (fstC (sndC (sndC (sndC (sndC (sndC (sndC b3)))))))))))), .inLoop (inC (inC (sndC (fstC (sndC (sndC (sndC (sndC (sndC (sndC b3)))))))))), .inBlock 3, .code (sndC (sndC (sndC (sndC (sndC (sndC (sndC b3)))))))]
noncomputable def R3 (l : List Ev.Act) : St Ty → EvR := resT tb C3 Try.f3.results.toList .keep [.sl false 32 l]
def h3 (L : List (List Int)) : Heap Ty := [some ⟨73, true, [(⟨L⟩ : Ev.Mem72)]⟩, some ⟨29, true, [(⟨L⟩ : Ev.Mem)]⟩]
def s3 (l : List Ev.Act) (L : List (List Int)) (i : Int) : St Ty := ⟨[(0, .sl false 32 l), (3, .ptr 0 [] 0 0), (4, .ptr 1 [] 0 0), (5, .v (.int .i64 i))], h3 L⟩
def t3 (L : List (List Int)) : St Ty := ⟨[(3, .ptr 0 [] 0 0), (4, .ptr 1 [] 0 0)], h3 L⟩
def k3 (L : List (List Int)) (k : Int) : St Ty := ⟨[(3, .ptr 0 [] 0 0), (4, .ptr 1 [] 0 0), (11, .v (.int .i64 k))], h3 L⟩
def j3 (L : List (List Int)) (k j : Int) : St Ty := ⟨[(3, .ptr 0 [] 0 0), (4, .ptr 1 [] 0 0), (11, .v (.int .i64 k)), (12, .v (.int .i64 j))], h3 L⟩
def yes1 (q : Bool) : EvR := some (.v (.bool q), [.dead])
section
variable (J : List Item → St Ty → EvR) (l : List Ev.Act) (L : List (List Int)) (i k j : Int)
theorem e3 : run tb C3 U3 J (R3 l) 4096 [.code b3] ⟨slotsA [.sl false 32 l] 0 0, heapA [.sl false 32 l]⟩ = if decide ((l.length : Int) > 60) = true then yes1 true else J k3_l0 (s3 l [] 0) := by kernel_rfl
theorem e3_l0 : run tb C3 U3 J (R3 l) 4096 k3_l0 (s3 l L i) =
    if decide (i < l.length) = true then if 0 ≤ i then if i < l.length then
      if decide (((l.getD i.toNat ⟨0, 0, 0, 0, []⟩).5.length : Int) > 30) = true then yes1 true
      else if ((l.getD i.toNat ⟨0, 0, 0, 0, []⟩).1 == 0) = true then
        if L.length ≤ 1000000 ∧ (l.getD i.toNat ⟨0, 0, 0, 0, []⟩).5.length ≤ 1000000 then if L.length ≤ 1000000 ∧ (l.getD i.toNat ⟨0, 0, 0, 0, []⟩).5.length ≤ 1000000 then
          if ((L.length : Int) != L.length) = true then yes1 false
          else if (((addM L (l.getD i.toNat ⟨0, 0, 0, 0, []⟩).5).length : Int) != (addM L (l.getD i.toNat ⟨0, 0, 0, 0, []⟩).5).length) = false then
            if (sizeM (addM L (l.getD i.toNat ⟨0, 0, 0, 0, []⟩).5) (l.getD i.toNat ⟨0, 0, 0, 0, []⟩).2 != sizeM (addM L (l.getD i.toNat ⟨0, 0, 0, 0, []⟩).5) (l.getD i.toNat ⟨0, 0, 0, 0, []⟩).2) = true then yes1 false
            else J k3_l0 (s3 l (addM L (l.getD i.toNat ⟨0, 0, 0, 0, []⟩).5) (IntKind.i64.wrap (i + 1)))
          else yes1 false
        else none else none
      else if ((l.getD i.toNat ⟨0, 0, 0, 0, []⟩).1 == 1) = true then
        if (loadM L (l.getD i.toNat ⟨0, 0, 0, 0, []⟩).2 (l.getD i.toNat ⟨0, 0, 0, 0, []⟩).3 != loadM L (l.getD i.toNat ⟨0, 0, 0, 0, []⟩).2 (l.getD i.toNat ⟨0, 0, 0, 0, []⟩).3) = false then
          if (!(hasM L (l.getD i.toNat ⟨0, 0, 0, 0, []⟩).2 (l.getD i.toNat ⟨0, 0, 0, 0, []⟩).3 == hasM L (l.getD i.toNat ⟨0, 0, 0, 0, []⟩).2 (l.getD i.toNat ⟨0, 0, 0, 0, []⟩).3)) = true then yes1 false
          else if ((L.length : Int) != L.length) = false then
            if (sizeM L (l.getD i.toNat ⟨0, 0, 0, 0, []⟩).2 != sizeM L (l.getD i.toNat ⟨0, 0, 0, 0, []⟩).2) = true then yes1 false
            else J k3_l0 (s3 l L (IntKind.i64.wrap (i + 1)))
          else yes1 false
        else yes1 false
      else if (!(hasM L (l.getD i.toNat ⟨0, 0, 0, 0, []⟩).2 (l.getD i.toNat ⟨0, 0, 0, 0, []⟩).3 == hasM L (l.getD i.toNat ⟨0, 0, 0, 0, []⟩).2 (l.getD i.toNat ⟨0, 0, 0, 0, []⟩).3)) = true then yes1 false
      else if (((storeM L (l.getD i.toNat ⟨0, 0, 0, 0, []⟩).2 (l.getD i.toNat ⟨0, 0, 0, 0, []⟩).3 (l.getD i.toNat ⟨0, 0, 0, 0, []⟩).4).length : Int) != (storeM L (l.getD i.toNat ⟨0, 0, 0, 0, []⟩).2 (l.getD i.toNat ⟨0, 0, 0, 0, []⟩).3 (l.getD i.toNat ⟨0, 0, 0, 0, []⟩).4).length) = false then
        if (sizeM (storeM L (l.getD i.toNat ⟨0, 0, 0, 0, []⟩).2 (l.getD i.toNat ⟨0, 0, 0, 0, []⟩).3 (l.getD i.toNat ⟨0, 0, 0, 0, []⟩).4) (l.getD i.toNat ⟨0, 0, 0, 0, []⟩).2 != sizeM (storeM L (l.getD i.toNat ⟨0, 0, 0, 0, []⟩).2 (l.getD i.toNat ⟨0, 0, 0, 0, []⟩).3 (l.getD i.toNat ⟨0, 0, 0, 0, []⟩).4) (l.getD i.toNat ⟨0, 0, 0, 0, []⟩).2) = true then yes1 false
        else J k3_l0 (s3 l (storeM L (l.getD i.toNat ⟨0, 0, 0, 0, []⟩).2 (l.getD i.toNat ⟨0, 0, 0, 0, []⟩).3 (l.getD i.toNat ⟨0, 0, 0, 0, []⟩).4) (IntKind.i64.wrap (i + 1)))
      else yes1 false
    else none else none
    else J k3_j0 (t3 L) := by kernel_rfl
theorem e3_j0 : run tb C3 U3 J (R3 l) 4096 k3_j0 (t3 L) = J k3_l3 (k3 L 0) := by kernel_rfl
theorem e3_l3 : run tb C3 U3 J (R3 l) 4096 k3_l3 (k3 L k) = if decide (k < L.length) = true then J k3_l5 (j3 L k (-1)) else J k3_j3 ⟨[], []⟩ := by kernel_rfl
theorem e3_j3 : run tb C3 U3 J (R3 l) 4096 k3_j3 ⟨[], []⟩ = yes1 true := by kernel_rfl
theorem e3_j4 : run tb C3 U3 J (R3 l) 4096 k3_j4 (k3 L k) = J k3_l3 (k3 L (IntKind.i64.wrap (k + 1))) := by kernel_rfl
theorem e3_j5 : run tb C3 U3 J (R3 l) 4096 k3_j5 (k3 L k) = J k3_j4 (k3 L k) := by kernel_rfl
theorem e3_l5 : run tb C3 U3 J (R3 l) 4096 k3_l5 (j3 L k j) =
    if 0 ≤ k then if k < L.length then
      if decide (j ≤ (L.getD (0 + k.toNat) []).length) = true then
        if (loadM L k j != loadM L k j) = false then
          if (!(hasM L k j == hasM L k j)) = true then yes1 false
          else J k3_l5 (j3 L k (IntKind.i64.wrap (j + 1)))
        else yes1 false
      else J k3_j5 (k3 L k)
    else none else none := by kernel_rfl
end
theorem l3_5 (l : List Ev.Act) (L : List (List Int)) (hL : ∀ x, x ∈ L → x.length ≤ 30) (k : Nat) (hk : k < L.length) (hk2 : L.length ≤ 60) : ∀ (m : Nat) (j : Int), -1 ≤ j → j + m = (L.getD k []).length + 1 → ∃ n0, ∀ n, walk tb C3 U3 (R3 l) (n + n0) k3_l5 (j3 L k j) = walk tb C3 U3 (R3 l) n k3_j5 (k3 L k)
  | 0, j, h0, h => by
    refine ⟨1, fun n => ?_⟩
    rw [walk_succ, e3_l5, if_pos (by omega), if_pos (by omega), Nat.zero_add, Int.toNat_natCast, if_neg (by rw [decide_eq_true_eq]; omega)]
  | m + 1, j, h0, h => by
    have hlen : (L.getD k []).length ≤ 30 := by rw [List.getD_eq_getElem?_getD, List.getElem?_eq_getElem hk]; exact hL _ (List.getElem_mem hk)
    obtain ⟨n0, hn⟩ := l3_5 l L hL k hk hk2 m (j + 1) (by omega) (by omega)
    refine ⟨n0 + 1, fun n => ?_⟩
    rw [← Nat.add_assoc, walk_succ, e3_l5, if_pos (by omega), if_pos (by omega), Nat.zero_add, Int.toNat_natCast, if_pos (decide_eq_true (by omega)), if_pos (by simp), if_neg (by simp), wrap_up (by omega), hn]
theorem l3_3 (l : List Ev.Act) (L : List (List Int)) (hL : ∀ x, x ∈ L → x.length ≤ 30) (hk2 : L.length ≤ 60) : ∀ (m k : Nat), k + m = L.length → ∃ n, walk tb C3 U3 (R3 l) n k3_l3 (k3 L k) = yes1 true
  | 0, k, h => by
    refine ⟨2, ?_⟩
    rw [walk_succ, e3_l3, if_neg (by simp; omega), walk_succ, e3_j3]
  | m + 1, k, h => by
    obtain ⟨n, hn⟩ := l3_3 l L hL hk2 m (k + 1) (by omega)
    obtain ⟨n0, hn0⟩ := l3_5 l L hL k (by omega) hk2 ((L.getD k []).length + 2) (-1) (by omega) (by omega)
    refine ⟨n + 1 + 1 + n0 + 1, ?_⟩
    rw [walk_succ, e3_l3, if_pos (by simp; omega), hn0, walk_succ, e3_j5, walk_succ, e3_j4, wrap_up (by omega), show ((k : Int) + 1) = ((k + 1 : Nat) : Int) by omega, hn]
theorem storeM_fit {L : List (List Int)} (hL : ∀ x, x ∈ L → x.length ≤ 30) (n o v : Int) : (storeM L n o v).length = L.length ∧ ∀ x, x ∈ storeM L n o v → x.length ≤ 30 := by
  unfold storeM
  split
  · rename_i h
    obtain ⟨h1, h2, _, _⟩ := hasM_in h
    refine ⟨by simp, fun x hx => ?_⟩
    rcases List.mem_or_eq_of_mem_set hx with h | h
    · exact hL x h
    · subst h
      rw [List.length_set, List.getD_eq_getElem?_getD, List.getElem?_eq_getElem (by omega)]
      exact hL _ (List.getElem_mem (by omega))
  · exact ⟨rfl, hL⟩
theorem l3_0 (l : List Ev.Act) (hl : l.length ≤ 60) : ∀ (m i : Nat) (L : List (List Int)), i + m = l.length → L.length ≤ i → (∀ x, x ∈ L → x.length ≤ 30) → ∃ n, walk tb C3 U3 (R3 l) n k3_l0 (s3 l L i) = yes1 true
  | 0, i, L, h, hi, hL => by
    obtain ⟨n, hn⟩ := l3_3 l L hL (by omega) L.length 0 (by omega)
    refine ⟨n + 1 + 1, ?_⟩
    rw [walk_succ, e3_l0, if_neg (by simp; omega), walk_succ, e3_j0]
    exact hn
  | m + 1, i, L, h, hi, hL => by
    by_cases h30 : ((l.getD i ⟨0, 0, 0, 0, []⟩).5.length : Int) > 30
    · refine ⟨1, ?_⟩
      rw [walk_succ, e3_l0, if_pos (by simp; omega), if_pos (by omega), if_pos (by omega), Int.toNat_natCast, if_pos (by simpa using h30)]
    · by_cases h0 : ((l.getD i ⟨0, 0, 0, 0, []⟩).1 == 0) = true
      · obtain ⟨n, hn⟩ := l3_0 l hl m (i + 1) (addM L (l.getD i ⟨0, 0, 0, 0, []⟩).5) (by omega) (by unfold addM; simp; omega) (fun x hx => by
          rcases List.mem_append.1 hx with hx | hx
          · exact hL x hx
          · simp only [List.mem_singleton] at hx; subst hx; omega)
        refine ⟨n + 1, ?_⟩
        rw [walk_succ, e3_l0, if_pos (by simp; omega), if_pos (by omega), if_pos (by omega), Int.toNat_natCast, if_neg (by simpa using h30), if_pos h0, if_pos (by omega), if_pos (by omega), if_neg (by simp), if_pos (by simp), if_neg (by simp), wrap_up (by omega), show ((i : Int) + 1) = ((i + 1 : Nat) : Int) by omega, hn]
      · by_cases h1 : ((l.getD i ⟨0, 0, 0, 0, []⟩).1 == 1) = true
        · obtain ⟨n, hn⟩ := l3_0 l hl m (i + 1) L (by omega) (by omega) hL
          refine ⟨n + 1, ?_⟩
          rw [walk_succ, e3_l0, if_pos (by simp; omega), if_pos (by omega), if_pos (by omega), Int.toNat_natCast, if_neg (by simpa using h30), if_neg h0, if_pos h1, if_pos (by simp), if_neg (by simp), if_pos (by simp), if_neg (by simp), wrap_up (by omega), show ((i : Int) + 1) = ((i + 1 : Nat) : Int) by omega, hn]
        · obtain ⟨f1, f2⟩ := storeM_fit hL (l.getD i ⟨0, 0, 0, 0, []⟩).2 (l.getD i ⟨0, 0, 0, 0, []⟩).3 (l.getD i ⟨0, 0, 0, 0, []⟩).4
          obtain ⟨n, hn⟩ := l3_0 l hl m (i + 1) _ (by omega) (by rw [f1]; omega) f2
          refine ⟨n + 1, ?_⟩
          rw [walk_succ, e3_l0, if_pos (by simp; omega), if_pos (by omega), if_pos (by omega), Int.toNat_natCast, if_neg (by simpa using h30), if_neg h0, if_neg h1, if_neg (by simp), if_pos (by simp), if_neg (by simp), wrap_up (by omega), show ((i : Int) + 1) = ((i + 1 : Nat) : Int) by omega, hn]
theorem plays_ok (l : List Ev.Act) : CallOk tb Try.prog 3 [.sl false 32 l] (.v (.bool true)) [.dead] := by
  have : ∃ n, evalF tb C3 U3 n b3 Try.f3.results.toList .keep [.sl false 32 l] = yes1 true := by
    by_cases hl : (l.length : Int) > 60
    · exact ⟨1, (e3 _ l).trans (if_pos (by simpa using hl))⟩
    · obtain ⟨n, hn⟩ := l3_0 l (by omega) l.length 0 [] (by omega) (by simp) (fun x hx => by cases hx)
      exact ⟨n + 1, (e3 _ l).trans ((if_neg (by simpa using hl)).trans hn)⟩
  obtain ⟨n, h⟩ := this
  refine fn_ok tbOk good (fun f mu S h => ?_) mixed (fn := Try.f3) (body := b3) (by kernel_rfl) (by kernel_rfl) rfl rfl (by show 1 ≤ 163; omega) h
  unfold C3 at h
  simp only at h
  split at h
  · cases h; exact ⟨in18, S18_ok⟩
  · cases h; exact ⟨in19, S19_ok⟩
  · cases h; exact ⟨in20, S20_ok⟩
  · cases h; exact ⟨in21, S21_ok⟩
  · cases h; exact ⟨in22, S22_ok⟩
  · cases h; exact ⟨in23, S23_ok⟩
  · cases h; exact ⟨in24, S24_ok⟩
  · cases h; exact ⟨in25, S25_ok⟩
  · cases h; exact ⟨in26, S26_ok⟩
  · cases h; exact ⟨in27, S27_ok⟩
  · cases h; exact ⟨in28, S28_ok⟩
  · cases h
end Go.Proofs.Ytnibdgjlbhdmfaa.Ev
