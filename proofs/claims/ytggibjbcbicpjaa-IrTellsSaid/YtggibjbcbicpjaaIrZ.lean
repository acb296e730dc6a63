/- plnref3.rise, which owns what it is handed. -/
import Derived.Test.YtggibjbcbicpjaaIrY
namespace Go.Proofs.Ytggibjbcbicpjaa.Ev
open Go
set_option linter.unusedVariables false
set_option linter.unusedSimpArgs false
/-- A Phi's entries rise, if there are as many of both. -/
def riseG (a t : List Int) : List Int × List Int := if a.length = t.length then riseF a t else (a, t)
theorem swp_alt (l : List Int) (j : Nat) : (l.set j (l.getD (j + 1) 0)).set (j + 1) (l.getD j 0) = swp l j := by
  unfold swp
  rw [List.set_comm _ _ (by omega)]
noncomputable def b93 : Code := bodyOf Try.f93
noncomputable def C93 : Cfg Ty := ⟨fun _ => none, fun
  | 1 => true
  | 2 => true
  | 400012 => true
  | 400079 => true
  | _ => false, 80, 0⟩
def U93 : Cuts := ⟨fun
  | 0 => some [(1, none), (2, none)]
  | 1 => some [(1, none), (2, none), (3, none)]
  | 2 => some [(1, none), (2, none), (3, none)]
  | _ => none, fun
  | 0 => some [(1, none), (2, none), (3, none)]
  | 2 => some [(1, none), (2, none), (3, none), (4, none)]
  | _ => none, fun
  | 7 => some [0, 1, 2, 3, 4, 5, 6, 7, 8, 9, 10, 11, 12, 13, 14, 15]
  | 9 => some [0, 1, 2, 3, 4, 6, 7, 8, 9, 10, 11, 12, 13, 14, 15, 16, 17, 18, 1000, 5, 19, 1000, 20, 21]
  | 10 => some [0, 1, 2, 3, 4, 6, 7, 8, 9, 10, 11, 12, 13, 14, 15, 16, 17, 18, 1000, 5, 19, 1000, 20, 21]
  | _ => none⟩
noncomputable def k93_j0 : List Item := [.code (sndC (sndC (sndC b93)))]
noncomputable def k93_l0 : List Item := [.code (inC (inC (sndC (fstC (sndC (sndC b93)))))), .inLoop (inC (inC (sndC (fstC (sndC (sndC b93)))))), .inBlock 0, .code (sndC (sndC (sndC b93)))]
noncomputable def k93_j1 : List Item := [.code (sndC (sndC (inC (inC (sndC (fstC (sndC (sndC b93)))))))), .inLoop (inC (inC (sndC (fstC (sndC (sndC b93)))))), .inBlock 0, .code (sndC (sndC (sndC b93)))]
noncomputable def k93_j2 : List Item := [.inBlock 1, .code (sndC (sndC (inC (inC (sndC (fstC (sndC (sndC b93)))))))), .inLoop (inC (inC (sndC (fstC (sndC (sndC b93)))))), .inBlock 0, .code (sndC (sndC (sndC b93)))]
noncomputable def k93_l2 : List Item := [.code (inC (inC (sndC (inC (fstC (sndC (inC (inC (sndC (fstC (sndC (sndC b93)))))))))))), .inLoop (inC (inC (sndC (inC (fstC (sndC (inC (inC (sndC (fstC (sndC (sndC b93)))))))))))), .inBlock 2, .inBlock 1, .code (sndC (sndC (inC (inC (sndC (fstC (sndC (sndC b93)))))))), .inLoop (inC (inC (sndC (fstC (sndC (sndC b93)))))), .inBlock 0, .code (sndC (sndC (sndC b93)))]
def a93 (x : Ins) : List (AV Ty) := [.agg [.v (.int .i64 x.op), .v (.int .i64 x.type_), .v (.int .i64 x.to_), .v (.int .i64 x.sym_), .v (.int .i64 x.num), .sl true (3 : Nat) x.args, .sl true (3 : Nat) x.into]]
noncomputable def R93 (x : Ins) : St Ty → EvR := resT tb C93 Try.f93.results.toList .keep (a93 x)
def s93_l0 (x : Ins) (v3 : Int) (h0 : Int) (h0_1 : Int) (h0_2 : Int) (h0_3 : Int) (h0_4 : Int) (h0_5 : List Int) (h0_6 : List Int) (h1 : Int) (h1_1 : Int) (h1_2 : Int) (h1_3 : Int) (h1_4 : Int) (h1_5 : List Int) (h1_6 : List Int) : St Ty := St.mk [(1, .ptr (0) [] (0) (0)), (2, .ptr (1) [] (0) (0)), (3, .v (.int .i64 v3))] [some (Root.mk (46) true [Ins.mk h0 h0_1 h0_2 h0_3 h0_4 h0_5 h0_6]), some (Root.mk (46) true [Ins.mk h1 h1_1 h1_2 h1_3 h1_4 h1_5 h1_6])]
def s93_l2 (x : Ins) (v3 : Int) (v4 : Int) (h0 : Int) (h0_1 : Int) (h0_2 : Int) (h0_3 : Int) (h0_4 : Int) (h0_5 : List Int) (h0_6 : List Int) (h1 : Int) (h1_1 : Int) (h1_2 : Int) (h1_3 : Int) (h1_4 : Int) (h1_5 : List Int) (h1_6 : List Int) : St Ty := St.mk [(1, .ptr (0) [] (0) (0)), (2, .ptr (1) [] (0) (0)), (3, .v (.int .i64 v3)), (4, .v (.int .i64 v4))] [some (Root.mk (46) true [Ins.mk h0 h0_1 h0_2 h0_3 h0_4 h0_5 h0_6]), some (Root.mk (46) true [Ins.mk h1 h1_1 h1_2 h1_3 h1_4 h1_5 h1_6])]
def s93_j0 (x : Ins) (h0 : Int) (h0_1 : Int) (h0_2 : Int) (h0_3 : Int) (h0_4 : Int) (h0_5 : List Int) (h0_6 : List Int) (h1 : Int) (h1_1 : Int) (h1_2 : Int) (h1_3 : Int) (h1_4 : Int) (h1_5 : List Int) (h1_6 : List Int) : St Ty := St.mk [(1, .ptr (0) [] (0) (0)), (2, .ptr (1) [] (0) (0))] [some (Root.mk (46) true [Ins.mk h0 h0_1 h0_2 h0_3 h0_4 h0_5 h0_6]), some (Root.mk (46) true [Ins.mk h1 h1_1 h1_2 h1_3 h1_4 h1_5 h1_6])]
def s93_j2 (x : Ins) (v3 : Int) (h0 : Int) (h0_1 : Int) (h0_2 : Int) (h0_3 : Int) (h0_4 : Int) (h0_5 : List Int) (h0_6 : List Int) (h1 : Int) (h1_1 : Int) (h1_2 : Int) (h1_3 : Int) (h1_4 : Int) (h1_5 : List Int) (h1_6 : List Int) : St Ty := St.mk [(1, .ptr (0) [] (0) (0)), (2, .ptr (1) [] (0) (0)), (3, .v (.int .i64 v3))] [some (Root.mk (46) true [Ins.mk h0 h0_1 h0_2 h0_3 h0_4 h0_5 h0_6]), some (Root.mk (46) true [Ins.mk h1 h1_1 h1_2 h1_3 h1_4 h1_5 h1_6])]
def s93_j1 (x : Ins) (v3 : Int) (h0 : Int) (h0_1 : Int) (h0_2 : Int) (h0_3 : Int) (h0_4 : Int) (h0_5 : List Int) (h0_6 : List Int) (h1 : Int) (h1_1 : Int) (h1_2 : Int) (h1_3 : Int) (h1_4 : Int) (h1_5 : List Int) (h1_6 : List Int) : St Ty := St.mk [(1, .ptr (0) [] (0) (0)), (2, .ptr (1) [] (0) (0)), (3, .v (.int .i64 v3))] [some (Root.mk (46) true [Ins.mk h0 h0_1 h0_2 h0_3 h0_4 h0_5 h0_6]), some (Root.mk (46) true [Ins.mk h1 h1_1 h1_2 h1_3 h1_4 h1_5 h1_6])]
theorem e93 (J x) : run tb C93 U93 J (R93 x) 4096 [.code b93] (startG (a93 x)) =
 if ((↑x.args.length : Int) != (↑x.into.length : Int)) = true then
 some (.agg [.v (.int .i64 x.op), .v (.int .i64 x.type_), .v (.int .i64 x.to_), .v (.int .i64 x.sym_), .v (.int .i64 x.num), .sl true 3 x.args, .sl true 3 x.into], [.dead])
 else
 J k93_l0 (s93_l0 x (1) x.op x.type_ x.to_ x.sym_ x.num x.args x.into 0 0 0 0 0 ([]) ([])) := by kernel_rfl
theorem e93_l0 (J x v3 h0 h0_1 h0_2 h0_3 h0_4 h0_5 h0_6 h1 h1_1 h1_2 h1_3 h1_4 h1_5 h1_6) : run tb C93 U93 J (R93 x) 4096 k93_l0 (s93_l0 x v3 h0 h0_1 h0_2 h0_3 h0_4 h0_5 h0_6 h1 h1_1 h1_2 h1_3 h1_4 h1_5 h1_6) =
 if decide (v3 < (↑h0_6.length : Int)) = true then
 J k93_l2 (s93_l2 x v3 v3 h0 h0_1 h0_2 h0_3 h0_4 h0_5 h0_6 h1 h1_1 h1_2 h1_3 h1_4 h1_5 h1_6)
 else
 J k93_j0 (s93_j0 x h0 h0_1 h0_2 h0_3 h0_4 h0_5 h0_6 h1 h1_1 h1_2 h1_3 h1_4 h1_5 h1_6) := by kernel_rfl
theorem e93_l2 (J x v3 v4 h0 h0_1 h0_2 h0_3 h0_4 h0_5 h0_6 h1 h1_1 h1_2 h1_3 h1_4 h1_5 h1_6) : run tb C93 U93 J (R93 x) 4096 k93_l2 (s93_l2 x v3 v4 h0 h0_1 h0_2 h0_3 h0_4 h0_5 h0_6 h1 h1_1 h1_2 h1_3 h1_4 h1_5 h1_6) =
 if decide (v4 > 0) = true then
 if 0 ≤ IntKind.i64.wrap (v4 - 1) then
 if IntKind.i64.wrap (v4 - 1) < (↑h0_6.length : Int) then
 if 0 ≤ v4 then
 if v4 < (↑h0_6.length : Int) then
 if decide (h0_6.getD (0 + (IntKind.i64.wrap (v4 - 1)).toNat) 0 > h0_6.getD (0 + v4.toNat) 0) = true then
 if 0 ≤ v4 then
 if v4 < (↑h0_6.length : Int) then
 if 0 ≤ IntKind.i64.wrap (v4 - 1) then
 if IntKind.i64.wrap (v4 - 1) < (↑h0_6.length : Int) then
 if 0 ≤ IntKind.i64.wrap (v4 - 1) then
 if IntKind.i64.wrap (v4 - 1) < (↑h0_6.length : Int) then
 meet (
 if 0 ≤ v4 then
 if v4 < (↑(h0_6.set (0 + (IntKind.i64.wrap (v4 - 1)).toNat) (h0_6.getD (0 + v4.toNat) 0)).length : Int) then
 if 0 ≤ v4 then
 if v4 < (↑h0_5.length : Int) then
 if 0 ≤ IntKind.i64.wrap (v4 - 1) then
 if IntKind.i64.wrap (v4 - 1) < (↑h0_5.length : Int) then
 if 0 ≤ IntKind.i64.wrap (v4 - 1) then
 if IntKind.i64.wrap (v4 - 1) < (↑h0_5.length : Int) then
 meet (
 if 0 ≤ v4 then
 if v4 < (↑(h0_5.set (0 + (IntKind.i64.wrap (v4 - 1)).toNat) (h0_5.getD (0 + v4.toNat) 0)).length : Int) then
 J k93_l2 (s93_l2 x v3 (IntKind.i64.wrap (v4 - 1)) h0 h0_1 h0_2 h0_3 h0_4 ((h0_5.set (0 + (IntKind.i64.wrap (v4 - 1)).toNat) (h0_5.getD (0 + v4.toNat) 0)).set (0 + v4.toNat) (h0_5.getD (0 + (IntKind.i64.wrap (v4 - 1)).toNat) 0)) ((h0_6.set (0 + (IntKind.i64.wrap (v4 - 1)).toNat) (h0_6.getD (0 + v4.toNat) 0)).set (0 + v4.toNat) (h0_6.getD (0 + (IntKind.i64.wrap (v4 - 1)).toNat) 0)) h1 h1_1 h1_2 h1_3 h1_4 h1_5 h1_6)
 else none
 else none
 ) (
 if 0 ≤ v4 then
 if v4 < (↑(h0_5.set (0 + (IntKind.i64.wrap (v4 - 1)).toNat) (h0_5.getD (0 + v4.toNat) 0)).length : Int) then
 J k93_l2 (s93_l2 x v3 (IntKind.i64.wrap (v4 - 1)) h0 h0_1 h0_2 h0_3 h0_4 ((h0_5.set (0 + (IntKind.i64.wrap (v4 - 1)).toNat) (h0_5.getD (0 + v4.toNat) 0)).set (0 + v4.toNat) (h0_5.getD (0 + (IntKind.i64.wrap (v4 - 1)).toNat) 0)) ((h0_6.set (0 + (IntKind.i64.wrap (v4 - 1)).toNat) (h0_6.getD (0 + v4.toNat) 0)).set (0 + v4.toNat) (h0_6.getD (0 + (IntKind.i64.wrap (v4 - 1)).toNat) 0)) h1 h1_1 h1_2 h1_3 h1_4 h1_5 h1_6)
 else none
 else none
 )
 else none
 else none
 else none
 else none
 else none
 else none
 else none
 else none
 ) (
 if 0 ≤ v4 then
 if v4 < (↑(h0_6.set (0 + (IntKind.i64.wrap (v4 - 1)).toNat) (h0_6.getD (0 + v4.toNat) 0)).length : Int) then
 if 0 ≤ v4 then
 if v4 < (↑h0_5.length : Int) then
 if 0 ≤ IntKind.i64.wrap (v4 - 1) then
 if IntKind.i64.wrap (v4 - 1) < (↑h0_5.length : Int) then
 if 0 ≤ IntKind.i64.wrap (v4 - 1) then
 if IntKind.i64.wrap (v4 - 1) < (↑h0_5.length : Int) then
 meet (
 if 0 ≤ v4 then
 if v4 < (↑(h0_5.set (0 + (IntKind.i64.wrap (v4 - 1)).toNat) (h0_5.getD (0 + v4.toNat) 0)).length : Int) then
 J k93_l2 (s93_l2 x v3 (IntKind.i64.wrap (v4 - 1)) h0 h0_1 h0_2 h0_3 h0_4 ((h0_5.set (0 + (IntKind.i64.wrap (v4 - 1)).toNat) (h0_5.getD (0 + v4.toNat) 0)).set (0 + v4.toNat) (h0_5.getD (0 + (IntKind.i64.wrap (v4 - 1)).toNat) 0)) ((h0_6.set (0 + (IntKind.i64.wrap (v4 - 1)).toNat) (h0_6.getD (0 + v4.toNat) 0)).set (0 + v4.toNat) (h0_6.getD (0 + (IntKind.i64.wrap (v4 - 1)).toNat) 0)) h1 h1_1 h1_2 h1_3 h1_4 h1_5 h1_6)
 else none
 else none
 ) (
 if 0 ≤ v4 then
 if v4 < (↑(h0_5.set (0 + (IntKind.i64.wrap (v4 - 1)).toNat) (h0_5.getD (0 + v4.toNat) 0)).length : Int) then
 J k93_l2 (s93_l2 x v3 (IntKind.i64.wrap (v4 - 1)) h0 h0_1 h0_2 h0_3 h0_4 ((h0_5.set (0 + (IntKind.i64.wrap (v4 - 1)).toNat) (h0_5.getD (0 + v4.toNat) 0)).set (0 + v4.toNat) (h0_5.getD (0 + (IntKind.i64.wrap (v4 - 1)).toNat) 0)) ((h0_6.set (0 + (IntKind.i64.wrap (v4 - 1)).toNat) (h0_6.getD (0 + v4.toNat) 0)).set (0 + v4.toNat) (h0_6.getD (0 + (IntKind.i64.wrap (v4 - 1)).toNat) 0)) h1 h1_1 h1_2 h1_3 h1_4 h1_5 h1_6)
 else none
 else none
 )
 else none
 else none
 else none
 else none
 else none
 else none
 else none
 else none
 )
 else none
 else none
 else none
 else none
 else none
 else none
 else
 J k93_j2 (s93_j2 x v3 h0 h0_1 h0_2 h0_3 h0_4 h0_5 h0_6 h1 h1_1 h1_2 h1_3 h1_4 h1_5 h1_6)
 else none
 else none
 else none
 else none
 else
 J k93_j2 (s93_j2 x v3 h0 h0_1 h0_2 h0_3 h0_4 h0_5 h0_6 h1 h1_1 h1_2 h1_3 h1_4 h1_5 h1_6) := by kernel_rfl
theorem e93_j0 (J x h0 h0_1 h0_2 h0_3 h0_4 h0_5 h0_6 h1 h1_1 h1_2 h1_3 h1_4 h1_5 h1_6) : run tb C93 U93 J (R93 x) 4096 k93_j0 (s93_j0 x h0 h0_1 h0_2 h0_3 h0_4 h0_5 h0_6 h1 h1_1 h1_2 h1_3 h1_4 h1_5 h1_6) =
 some (.agg [.v (.int .i64 h0), .v (.int .i64 h0_1), .v (.int .i64 h0_2), .v (.int .i64 h0_3), .v (.int .i64 h0_4), .sl true 3 h0_5, .sl true 3 h0_6], [.dead]) := by kernel_rfl
theorem e93_j2 (J x v3 h0 h0_1 h0_2 h0_3 h0_4 h0_5 h0_6 h1 h1_1 h1_2 h1_3 h1_4 h1_5 h1_6) : run tb C93 U93 J (R93 x) 4096 k93_j2 (s93_j2 x v3 h0 h0_1 h0_2 h0_3 h0_4 h0_5 h0_6 h1 h1_1 h1_2 h1_3 h1_4 h1_5 h1_6) =
 J k93_j1 (s93_j1 x v3 h0 h0_1 h0_2 h0_3 h0_4 h0_5 h0_6 h1 h1_1 h1_2 h1_3 h1_4 h1_5 h1_6) := by kernel_rfl
theorem e93_j1 (J x v3 h0 h0_1 h0_2 h0_3 h0_4 h0_5 h0_6 h1 h1_1 h1_2 h1_3 h1_4 h1_5 h1_6) : run tb C93 U93 J (R93 x) 4096 k93_j1 (s93_j1 x v3 h0 h0_1 h0_2 h0_3 h0_4 h0_5 h0_6 h1 h1_1 h1_2 h1_3 h1_4 h1_5 h1_6) =
 J k93_l0 (s93_l0 x (IntKind.i64.wrap (v3 + 1)) h0 h0_1 h0_2 h0_3 h0_4 h0_5 h0_6 h1 h1_1 h1_2 h1_3 h1_4 h1_5 h1_6) := by kernel_rfl

theorem in93 : Entered 93 := ⟨Try.f93, b93, by kernel_rfl, by kernel_rfl, by kernel_rfl⟩
theorem fn93 (x : Ev.Ins) {res : AV Ty} {outs : List (AV Ty)} (h : Ends C93 U93 (R93 x) [.code b93] (startG (a93 x)) (some (res, outs))) : CallOk tb Try.prog 93 (a93 x) res outs := by
  obtain ⟨n0, hn⟩ := h
  exact fn_gift (C := C93) (U := U93) (n := 0 + n0) (q := .keep) tbOk good (fun f mu S h => by cases h) mixed (fn := Try.f93) (body := b93) (by kernel_rfl) (by kernel_rfl) rfl rfl (by show 1 ≤ 80; omega) (hn 0)
section
variable {x : Ev.Ins}
abbrev r2 (x : Ev.Ins) (k j : Nat) (s : List Int × List Int) : St Ty := s93_l2 x k j x.op x.type_ x.to_ x.sym_ x.num s.1 s.2 0 0 0 0 0 [] []
abbrev r0 (x : Ev.Ins) (k : Nat) (s : List Int × List Int) : St Ty := s93_l0 x k x.op x.type_ x.to_ x.sym_ x.num s.1 s.2 0 0 0 0 0 [] []
theorem RiseR.in {k : Nat} : ∀ (j : Nat) (s : List Int × List Int), s.1.length = s.2.length → s.2.length ≤ 1000 → j < s.2.length →
    Goes C93 U93 (R93 x) k93_l2 (r2 x k j s) k93_j2 (s93_j2 x k x.op x.type_ x.to_ x.sym_ x.num (inn j s).1 (inn j s).2 0 0 0 0 0 [] [])
  | 0, s, h1, h2, hj => .step fun J => by
    unfold r2
    rw [e93_l2]
    simp (disch := first | omega | assumption | (rw [decide_eq_true_eq]; omega) | (rw [decide_eq_false_iff_not]; omega)) only [↓if_pos, ↓if_neg, if_true, if_false, wrap_up, Int.toNat_natCast, Nat.zero_add]
    rfl
  | j + 1, s, h1, h2, hj => by
    have e1 : (((j + 1 : Nat) : Int) - 1) = (j : Int) := by omega
    by_cases h : s.2.getD (j + 1) 0 < s.2.getD j 0
    · have ih := RiseR.in (k := k) j (swp s.1 j, swp s.2 j) (by rw [swp_len, swp_len]; exact h1) (by rw [swp_len]; exact h2) (by rw [swp_len]; omega)
      unfold inn
      rw [if_pos h]
      refine Goes.trans (.step fun J => ?_) ih
      unfold r2
      rw [e93_l2, e1]
      have e2 : IntKind.i64.wrap (j : Int) = (j : Int) := wrap_up (by omega)
      simp only [e2, Int.toNat_natCast, Nat.zero_add, List.length_set, swp_alt]
      simp (disch := first | omega | assumption | (rw [decide_eq_true_eq]; omega) | (rw [decide_eq_false_iff_not]; omega)) only [↓if_pos, ↓if_neg, if_true, if_false, wrap_up, Int.toNat_natCast, Nat.zero_add, meet_self]
    · unfold inn
      rw [if_neg h]
      refine .step fun J => ?_
      unfold r2
      rw [e93_l2, e1]
      have e2 : IntKind.i64.wrap (j : Int) = (j : Int) := wrap_up (by omega)
      simp only [e2, Int.toNat_natCast, Nat.zero_add, List.length_set]
      simp (disch := first | omega | assumption | (rw [decide_eq_true_eq]; omega) | (rw [decide_eq_false_iff_not]; omega)) only [↓if_pos, ↓if_neg, if_true, if_false, wrap_up, Int.toNat_natCast, Nat.zero_add]
theorem RiseR.out (h1 : x.args.length = x.into.length) (h2 : x.into.length ≤ 1000) {k : Nat} (hk : k + 1 < x.into.length) :
    Goes C93 U93 (R93 x) k93_l0 (r0 x (k + 1) (risen k (x.args, x.into))) k93_l0 (r0 x (k + 1 + 1) (risen (k + 1) (x.args, x.into))) := by
  obtain ⟨l1, l2⟩ := risen_len k (x.args, x.into)
  simp only at l1 l2
  refine Goes.trans (k' := k93_l2) (s' := r2 x (k + 1) (k + 1) (risen k (x.args, x.into))) (.step fun J => ?_) (Goes.trans (RiseR.in (k := k + 1) (k + 1) (risen k (x.args, x.into)) (by omega) (by omega) (by omega)) (Goes.trans (.step fun J => e93_j2 ..) (.step fun J => ?_)))
  · unfold r0
    rw [e93_l0]
    simp (disch := first | omega | assumption | (rw [decide_eq_true_eq]; omega) | (rw [decide_eq_false_iff_not]; omega)) only [↓if_pos, ↓if_neg, if_true, if_false, wrap_up, Int.toNat_natCast, Nat.zero_add]
  · rw [e93_j1]
    simp (disch := first | omega | assumption | (rw [decide_eq_true_eq]; omega) | (rw [decide_eq_false_iff_not]; omega)) only [↓if_pos, ↓if_neg, if_true, if_false, wrap_up, Int.toNat_natCast, Nat.zero_add]
    rfl
theorem rise2_ok (x : Ev.Ins) (h1 : x.args.length ≤ 1000) (h2 : x.into.length ≤ 1000) : CallOk tb Try.prog 93 (a93 x) (.agg [.v (.int .i64 x.op), .v (.int .i64 x.type_), .v (.int .i64 x.to_), .v (.int .i64 x.sym_), .v (.int .i64 x.num), .sl true 3 (riseG x.args x.into).1, .sl true 3 (riseG x.args x.into).2]) [.dead] := by
  unfold riseG
  by_cases hl : x.args.length = x.into.length
  · rw [if_pos hl]
    have ne : ¬ ((x.args.length : Int) != (x.into.length : Int)) = true := by simp [hl]
    refine fn93 x (Goes.ends (k' := k93_l0) (s' := r0 x (0 + 1) (risen 0 (x.args, x.into))) (.step fun J => by rw [e93, if_neg ne]; rfl) ?_)
    have go := Goes.upto (fun k => r0 x (k + 1) (risen k (x.args, x.into))) (x.into.length - 1) (fun k hk => RiseR.out hl h2 (k := k) (by omega)) _ (Nat.le_refl _)
    refine Goes.ends go ?_
    obtain ⟨l1, l2⟩ := risen_len (x.into.length - 1) (x.args, x.into)
    simp only at l1 l2
    refine Goes.ends (k' := k93_j0) (s' := s93_j0 x x.op x.type_ x.to_ x.sym_ x.num (riseF x.args x.into).1 (riseF x.args x.into).2 0 0 0 0 0 [] []) (.step fun J => ?_) (.step fun J => e93_j0 ..)
    unfold r0
    rw [e93_l0]
    simp (disch := first | omega | assumption | (rw [decide_eq_true_eq]; omega) | (rw [decide_eq_false_iff_not]; omega)) only [↓if_pos, ↓if_neg, if_true, if_false, wrap_up, Int.toNat_natCast, Nat.zero_add]
    rfl
  · rw [if_neg hl]
    have ne : ((x.args.length : Int) != (x.into.length : Int)) = true := by simp; omega
    exact fn93 x (.step fun J => by rw [e93, if_pos ne])
end
def S93 : List (AV Ty) → T (AV Ty × List (AV Ty))
  | [.agg [.v (.int .i64 op), .v (.int .i64 ty), .v (.int .i64 to), .v (.int .i64 sy), .v (.int .i64 nu), .sl true 3 ar, .sl true 3 into]] =>
    .ite ((show List Int from ar).length ≤ 1000 ∧ (show List Int from into).length ≤ 1000) inferInstance (.ret (.agg [.v (.int .i64 op), .v (.int .i64 ty), .v (.int .i64 to), .v (.int .i64 sy), .v (.int .i64 nu), .sl true 3 (riseG ar into).1, .sl true 3 (riseG ar into).2], [.dead])) .fail
  | _ => .fail
theorem S93_ok (l : List (AV Ty)) (r : AV Ty) (outs : List (AV Ty)) (h : (S93 l).val = some (r, outs)) : CallOk tb Try.prog 93 l r outs := by
  unfold S93 at h
  split at h
  · rename_i op ty to sy nu ar into
    rcases ite_val h with ⟨e, h⟩ | ⟨_, h⟩
    · cases h
      exact rise2_ok ⟨op, ty, to, sy, nu, ar, into⟩ e.1 e.2
    · cases h
  · cases h
end Go.Proofs.Ytggibjbcbicpjaa.Ev
