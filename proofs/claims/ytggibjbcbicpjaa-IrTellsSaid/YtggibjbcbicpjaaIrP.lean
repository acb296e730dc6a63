/- plnref3.Same: are two modules the same? -/
import Derived.Test.YtggibjbcbicpjaaIrO
namespace Go.Proofs.Ytggibjbcbicpjaa.Ev
open Go
set_option linter.unusedVariables false
set_option linter.unusedSimpArgs false
def sameX (x y : Ev.Extern) : Bool := x.name.toList == y.name.toList && x.result == y.result && same3 x.params y.params
def sameG (x y : Ev.Global) : Bool := x.name.toList == y.name.toList && same3 x.cells y.cells
def sameT (x y : Ev.Table) : Bool := x.name.toList == y.name.toList && same3 x.funcs y.funcs
def sameMP (a b : Ev.Module) : Prop := (a.externs.length = b.externs.length ∧ a.globals.length = b.globals.length ∧ a.tables.length = b.tables.length ∧ a.funcs.length = b.funcs.length) ∧ (∀ i, i < a.externs.length → sameX (a.externs.getD i (Extern.mk ByteArray.empty [] 0)) (b.externs.getD i (Extern.mk ByteArray.empty [] 0)) = true) ∧ (∀ i, i < a.globals.length → sameG (a.globals.getD i (Global.mk ByteArray.empty [])) (b.globals.getD i (Global.mk ByteArray.empty [])) = true) ∧
  (∀ i, i < a.tables.length → sameT (a.tables.getD i (Table.mk ByteArray.empty [])) (b.tables.getD i (Table.mk ByteArray.empty [])) = true) ∧ ∀ i, i < a.funcs.length → sameFun (a.funcs.getD i (Func.mk ByteArray.empty false [] 0 [])) (b.funcs.getD i (Func.mk ByteArray.empty false [] 0 [])) = true
instance sameMP.dec (a b : Ev.Module) : Decidable (sameMP a b) := by unfold sameMP; infer_instance
def sameMo (a b : Ev.Module) : Bool := decide (sameMP a b)
theorem sameFun_self (f : Ev.Func) : sameFun f f = true := by unfold sameFun same3; simp
theorem sameMo_self (a : Ev.Module) : sameMo a a = true := by
  refine decide_eq_true ⟨⟨rfl, rfl, rfl, rfl⟩, fun i _ => ?_, fun i _ => ?_, fun i _ => ?_, fun i _ => sameFun_self _⟩
  · unfold sameX same3; simp
  · unfold sameG same3; simp
  · unfold sameT same3; simp
noncomputable def b37 : Code := bodyOf Try.f37
noncomputable def C37 : Cfg Ty := ⟨fun
  | 29 => some ([], S29)
  | 82 => some ([], S82)
  | 27 => some ([], S27)
  | _ => none, fun _ => false, 185, 0⟩
def U37 : Cuts := ⟨fun
  | 0 => some [(2, none), (3, none)]
  | 2 => some [(2, none), (3, none)]
  | 4 => some [(2, none), (3, none)]
  | 6 => some []
  | _ => none, fun
  | 0 => some [(2, none), (3, none), (5, none)]
  | 2 => some [(2, none), (3, none), (6, none)]
  | 4 => some [(2, none), (3, none), (7, none)]
  | 6 => some [(2, none), (3, none), (8, none)]
  | _ => none, fun _ => none⟩
noncomputable def k37_j0 : List Item := [.code (sndC (sndC (sndC b37)))]
noncomputable def k37_l0 : List Item := [.code (inC (inC (sndC (fstC (sndC (sndC b37)))))), .inLoop (inC (inC (sndC (fstC (sndC (sndC b37)))))), .inBlock 0, .code (sndC (sndC (sndC b37)))]
noncomputable def k37_j2 : List Item := [.code (sndC (sndC (sndC (sndC b37))))]
noncomputable def k37_l2 : List Item := [.code (inC (inC (sndC (fstC (sndC (sndC (sndC b37))))))), .inLoop (inC (inC (sndC (fstC (sndC (sndC (sndC b37))))))), .inBlock 2, .code (sndC (sndC (sndC (sndC b37))))]
noncomputable def k37_j4 : List Item := [.code (sndC (sndC (sndC (sndC (sndC b37)))))]
noncomputable def k37_l4 : List Item := [.code (inC (inC (sndC (fstC (sndC (sndC (sndC (sndC b37)))))))), .inLoop (inC (inC (sndC (fstC (sndC (sndC (sndC (sndC b37)))))))), .inBlock 4, .code (sndC (sndC (sndC (sndC (sndC b37)))))]
noncomputable def k37_j6 : List Item := [.code (sndC (sndC (sndC (sndC (sndC (sndC b37))))))]
noncomputable def k37_l6 : List Item := [.code (inC (inC (sndC (fstC (sndC (sndC (sndC (sndC (sndC b37))))))))), .inLoop (inC (inC (sndC (fstC (sndC (sndC (sndC (sndC (sndC b37))))))))), .inBlock 6, .code (sndC (sndC (sndC (sndC (sndC (sndC b37))))))]
def a37 (a : Module) (b : Module) : List (AV Ty) := [.agg [.sl false (91 : Nat) a.externs, .sl false (94 : Nat) a.globals, .sl false (96 : Nat) a.tables, .sl false (33 : Nat) a.funcs], .agg [.sl false (91 : Nat) b.externs, .sl false (94 : Nat) b.globals, .sl false (96 : Nat) b.tables, .sl false (33 : Nat) b.funcs]]
noncomputable def R37 (a : Module) (b : Module) : St Ty → EvR := resT tb C37 Try.f37.results.toList .keep (a37 a b)
def s37_l0 (a : Module) (b : Module) (v5 : Int) (h0 : List Module) (h1 : List Module) : St Ty := St.mk [(2, .ptr (0) [] (0) (0)), (3, .ptr (1) [] (0) (0)), (5, .v (.int .i64 v5))] [some (Root.mk (27) false h0), some (Root.mk (27) false h1)]
def s37_j0 (a : Module) (b : Module) (h0 : List Module) (h1 : List Module) : St Ty := St.mk [(2, .ptr (0) [] (0) (0)), (3, .ptr (1) [] (0) (0))] [some (Root.mk (27) false h0), some (Root.mk (27) false h1)]
def s37_l2 (a : Module) (b : Module) (v6 : Int) (h0 : List Module) (h1 : List Module) : St Ty := St.mk [(2, .ptr (0) [] (0) (0)), (3, .ptr (1) [] (0) (0)), (6, .v (.int .i64 v6))] [some (Root.mk (27) false h0), some (Root.mk (27) false h1)]
def s37_j2 (a : Module) (b : Module) (h0 : List Module) (h1 : List Module) : St Ty := St.mk [(2, .ptr (0) [] (0) (0)), (3, .ptr (1) [] (0) (0))] [some (Root.mk (27) false h0), some (Root.mk (27) false h1)]
def s37_l4 (a : Module) (b : Module) (v7 : Int) (h0 : List Module) (h1 : List Module) : St Ty := St.mk [(2, .ptr (0) [] (0) (0)), (3, .ptr (1) [] (0) (0)), (7, .v (.int .i64 v7))] [some (Root.mk (27) false h0), some (Root.mk (27) false h1)]
def s37_j4 (a : Module) (b : Module) (h0 : List Module) (h1 : List Module) : St Ty := St.mk [(2, .ptr (0) [] (0) (0)), (3, .ptr (1) [] (0) (0))] [some (Root.mk (27) false h0), some (Root.mk (27) false h1)]
def s37_l6 (a : Module) (b : Module) (v8 : Int) (h0 : List Module) (h1 : List Module) : St Ty := St.mk [(2, .ptr (0) [] (0) (0)), (3, .ptr (1) [] (0) (0)), (8, .v (.int .i64 v8))] [some (Root.mk (27) false h0), some (Root.mk (27) false h1)]
def s37_j6 (a : Module) (b : Module)  : St Ty := St.mk [] []
theorem e37 (J a b) : run tb C37 U37 J (R37 a b) 4096 [.code b37] ⟨slotsA (a37 a b) 0 0, heapA (a37 a b)⟩ =
 if ((↑a.externs.length : Int) != (↑b.externs.length : Int)) = false then
 if ((↑a.globals.length : Int) != (↑b.globals.length : Int)) = false then
 if ((↑a.tables.length : Int) != (↑b.tables.length : Int)) = false then
 if ((↑a.funcs.length : Int) != (↑b.funcs.length : Int)) = true then
 some (.v (.bool false), [.dead, .dead])
 else
 J k37_l0 (s37_l0 a b 0 ([Module.mk a.externs a.globals a.tables a.funcs]) ([Module.mk b.externs b.globals b.tables b.funcs]))
 else
 some (.v (.bool false), [.dead, .dead])
 else
 some (.v (.bool false), [.dead, .dead])
 else
 some (.v (.bool false), [.dead, .dead]) := by kernel_rfl
theorem e37_l0 (J a b v5 h0 h1) : run tb C37 U37 J (R37 a b) 4096 k37_l0 (s37_l0 a b v5 h0 h1) =
 if decide (v5 < (↑(h0.getD (0) (Module.mk [] [] [] [])).externs.length : Int)) = true then
 if 0 ≤ v5 then
 if v5 < (↑(h0.getD (0) (Module.mk [] [] [] [])).externs.length : Int) then
 if 0 ≤ v5 then
 if v5 < (↑(h1.getD (0) (Module.mk [] [] [] [])).externs.length : Int) then
 if (!((h0.getD (0) (Module.mk [] [] [] [])).externs.getD v5.toNat (Extern.mk ByteArray.empty [] 0)).name.toList == ((h1.getD (0) (Module.mk [] [] [] [])).externs.getD v5.toNat (Extern.mk ByteArray.empty [] 0)).name.toList) = false then
 if 0 ≤ v5 then
 if v5 < (↑(h0.getD (0) (Module.mk [] [] [] [])).externs.length : Int) then
 if 0 ≤ v5 then
 if v5 < (↑(h1.getD (0) (Module.mk [] [] [] [])).externs.length : Int) then
 if (((h0.getD (0) (Module.mk [] [] [] [])).externs.getD v5.toNat (Extern.mk ByteArray.empty [] 0)).result != ((h1.getD (0) (Module.mk [] [] [] [])).externs.getD v5.toNat (Extern.mk ByteArray.empty [] 0)).result) = false then
 if 0 ≤ v5 then
 if v5 < (↑(h0.getD (0) (Module.mk [] [] [] [])).externs.length : Int) then
 if 0 ≤ v5 then
 if v5 < (↑(h1.getD (0) (Module.mk [] [] [] [])).externs.length : Int) then
 if ((h0.getD (0) (Module.mk [] [] [] [])).externs.getD v5.toNat (Extern.mk ByteArray.empty [] 0)).params.length ≤ 4611686018427387904 then
 if (!same3 ((h0.getD (0) (Module.mk [] [] [] [])).externs.getD v5.toNat (Extern.mk ByteArray.empty [] 0)).params ((h1.getD (0) (Module.mk [] [] [] [])).externs.getD v5.toNat (Extern.mk ByteArray.empty [] 0)).params) = true then
 some (.v (.bool false), [.dead, .dead])
 else
 J k37_l0 (s37_l0 a b (IntKind.i64.wrap (v5 + 1)) h0 h1)
 else none
 else none
 else none
 else none
 else none
 else
 some (.v (.bool false), [.dead, .dead])
 else none
 else none
 else none
 else none
 else
 some (.v (.bool false), [.dead, .dead])
 else none
 else none
 else none
 else none
 else
 J k37_j0 (s37_j0 a b h0 h1) := by kernel_rfl
theorem e37_j0 (J a b h0 h1) : run tb C37 U37 J (R37 a b) 4096 k37_j0 (s37_j0 a b h0 h1) =
 J k37_l2 (s37_l2 a b 0 h0 h1) := by kernel_rfl
theorem e37_l2 (J a b v6 h0 h1) : run tb C37 U37 J (R37 a b) 4096 k37_l2 (s37_l2 a b v6 h0 h1) =
 if decide (v6 < (↑(h0.getD (0) (Module.mk [] [] [] [])).globals.length : Int)) = true then
 if 0 ≤ v6 then
 if v6 < (↑(h0.getD (0) (Module.mk [] [] [] [])).globals.length : Int) then
 if 0 ≤ v6 then
 if v6 < (↑(h1.getD (0) (Module.mk [] [] [] [])).globals.length : Int) then
 if (!((h0.getD (0) (Module.mk [] [] [] [])).globals.getD v6.toNat (Global.mk ByteArray.empty [])).name.toList == ((h1.getD (0) (Module.mk [] [] [] [])).globals.getD v6.toNat (Global.mk ByteArray.empty [])).name.toList) = false then
 if 0 ≤ v6 then
 if v6 < (↑(h0.getD (0) (Module.mk [] [] [] [])).globals.length : Int) then
 if 0 ≤ v6 then
 if v6 < (↑(h1.getD (0) (Module.mk [] [] [] [])).globals.length : Int) then
 if ((h0.getD (0) (Module.mk [] [] [] [])).globals.getD v6.toNat (Global.mk ByteArray.empty [])).cells.length ≤ 4611686018427387904 then
 if (!same3 ((h0.getD (0) (Module.mk [] [] [] [])).globals.getD v6.toNat (Global.mk ByteArray.empty [])).cells ((h1.getD (0) (Module.mk [] [] [] [])).globals.getD v6.toNat (Global.mk ByteArray.empty [])).cells) = true then
 some (.v (.bool false), [.dead, .dead])
 else
 J k37_l2 (s37_l2 a b (IntKind.i64.wrap (v6 + 1)) h0 h1)
 else none
 else none
 else none
 else none
 else none
 else
 some (.v (.bool false), [.dead, .dead])
 else none
 else none
 else none
 else none
 else
 J k37_j2 (s37_j2 a b h0 h1) := by kernel_rfl
theorem e37_j2 (J a b h0 h1) : run tb C37 U37 J (R37 a b) 4096 k37_j2 (s37_j2 a b h0 h1) =
 J k37_l4 (s37_l4 a b 0 h0 h1) := by kernel_rfl
theorem e37_l4 (J a b v7 h0 h1) : run tb C37 U37 J (R37 a b) 4096 k37_l4 (s37_l4 a b v7 h0 h1) =
 if decide (v7 < (↑(h0.getD (0) (Module.mk [] [] [] [])).tables.length : Int)) = true then
 if 0 ≤ v7 then
 if v7 < (↑(h0.getD (0) (Module.mk [] [] [] [])).tables.length : Int) then
 if 0 ≤ v7 then
 if v7 < (↑(h1.getD (0) (Module.mk [] [] [] [])).tables.length : Int) then
 if (!((h0.getD (0) (Module.mk [] [] [] [])).tables.getD v7.toNat (Table.mk ByteArray.empty [])).name.toList == ((h1.getD (0) (Module.mk [] [] [] [])).tables.getD v7.toNat (Table.mk ByteArray.empty [])).name.toList) = false then
 if 0 ≤ v7 then
 if v7 < (↑(h0.getD (0) (Module.mk [] [] [] [])).tables.length : Int) then
 if 0 ≤ v7 then
 if v7 < (↑(h1.getD (0) (Module.mk [] [] [] [])).tables.length : Int) then
 if ((h0.getD (0) (Module.mk [] [] [] [])).tables.getD v7.toNat (Table.mk ByteArray.empty [])).funcs.length ≤ 4611686018427387904 then
 if (!same3 ((h0.getD (0) (Module.mk [] [] [] [])).tables.getD v7.toNat (Table.mk ByteArray.empty [])).funcs ((h1.getD (0) (Module.mk [] [] [] [])).tables.getD v7.toNat (Table.mk ByteArray.empty [])).funcs) = true then
 some (.v (.bool false), [.dead, .dead])
 else
 J k37_l4 (s37_l4 a b (IntKind.i64.wrap (v7 + 1)) h0 h1)
 else none
 else none
 else none
 else none
 else none
 else
 some (.v (.bool false), [.dead, .dead])
 else none
 else none
 else none
 else none
 else
 J k37_j4 (s37_j4 a b h0 h1) := by kernel_rfl
theorem e37_j4 (J a b h0 h1) : run tb C37 U37 J (R37 a b) 4096 k37_j4 (s37_j4 a b h0 h1) =
 J k37_l6 (s37_l6 a b 0 h0 h1) := by kernel_rfl
theorem e37_l6 (J a b v8 h0 h1) : run tb C37 U37 J (R37 a b) 4096 k37_l6 (s37_l6 a b v8 h0 h1) =
 if decide (v8 < (↑(h0.getD (0) (Module.mk [] [] [] [])).funcs.length : Int)) = true then
 if 0 ≤ v8 then
 if v8 < (↑(h0.getD (0) (Module.mk [] [] [] [])).funcs.length : Int) then
 if 0 ≤ v8 then
 if v8 < (↑(h1.getD (0) (Module.mk [] [] [] [])).funcs.length : Int) then
 if okF (Func.mk ((h0.getD (0) (Module.mk [] [] [] [])).funcs.getD v8.toNat (Func.mk ByteArray.empty false [] 0 [])).name ((h0.getD (0) (Module.mk [] [] [] [])).funcs.getD v8.toNat (Func.mk ByteArray.empty false [] 0 [])).out ((h0.getD (0) (Module.mk [] [] [] [])).funcs.getD v8.toNat (Func.mk ByteArray.empty false [] 0 [])).params ((h0.getD (0) (Module.mk [] [] [] [])).funcs.getD v8.toNat (Func.mk ByteArray.empty false [] 0 [])).result ((h0.getD (0) (Module.mk [] [] [] [])).funcs.getD v8.toNat (Func.mk ByteArray.empty false [] 0 [])).blocks) then
 if (!sameFun (Func.mk ((h0.getD (0) (Module.mk [] [] [] [])).funcs.getD v8.toNat (Func.mk ByteArray.empty false [] 0 [])).name ((h0.getD (0) (Module.mk [] [] [] [])).funcs.getD v8.toNat (Func.mk ByteArray.empty false [] 0 [])).out ((h0.getD (0) (Module.mk [] [] [] [])).funcs.getD v8.toNat (Func.mk ByteArray.empty false [] 0 [])).params ((h0.getD (0) (Module.mk [] [] [] [])).funcs.getD v8.toNat (Func.mk ByteArray.empty false [] 0 [])).result ((h0.getD (0) (Module.mk [] [] [] [])).funcs.getD v8.toNat (Func.mk ByteArray.empty false [] 0 [])).blocks) (Func.mk ((h1.getD (0) (Module.mk [] [] [] [])).funcs.getD v8.toNat (Func.mk ByteArray.empty false [] 0 [])).name ((h1.getD (0) (Module.mk [] [] [] [])).funcs.getD v8.toNat (Func.mk ByteArray.empty false [] 0 [])).out ((h1.getD (0) (Module.mk [] [] [] [])).funcs.getD v8.toNat (Func.mk ByteArray.empty false [] 0 [])).params ((h1.getD (0) (Module.mk [] [] [] [])).funcs.getD v8.toNat (Func.mk ByteArray.empty false [] 0 [])).result ((h1.getD (0) (Module.mk [] [] [] [])).funcs.getD v8.toNat (Func.mk ByteArray.empty false [] 0 [])).blocks)) = true then
 some (.v (.bool false), [.dead, .dead])
 else
 J k37_l6 (s37_l6 a b (IntKind.i64.wrap (v8 + 1)) h0 h1)
 else none
 else none
 else none
 else none
 else none
 else
 J k37_j6 (s37_j6 a b) := by kernel_rfl
theorem e37_j6 (J a b) : run tb C37 U37 J (R37 a b) 4096 k37_j6 (s37_j6 a b) =
 some (.v (.bool true), [.dead, .dead]) := by kernel_rfl

theorem in37 : Entered 37 := ⟨Try.f37, b37, by kernel_rfl, by kernel_rfl, by kernel_rfl⟩
theorem fn37 (a b : Ev.Module) {res : AV Ty} {outs : List (AV Ty)} (h : Ends C37 U37 (R37 a b) [.code b37] ⟨slotsA (a37 a b) 0 0, heapA (a37 a b)⟩ (some (res, outs))) : CallOk tb Try.prog 37 (a37 a b) res outs := by
  obtain ⟨n0, hn⟩ := h
  exact fn_ok (C := C37) (U := U37) (n := 0 + n0) (q := .keep) tbOk good (fun f mu S h => by
    unfold C37 at h
    simp only at h
    split at h
    · cases h; exact ⟨in29, S29_ok⟩
    · cases h; exact ⟨in82, S82_ok⟩
    · cases h; exact ⟨in27, S27_ok⟩
    · cases h) mixed (fn := Try.f37) (body := b37) (by kernel_rfl) (by kernel_rfl) rfl rfl (by show 2 ≤ 185; omega) (hn 0)
section
variable {a b : Ev.Module}
abbrev noE : EvR := some (.v (.bool false), [.dead, .dead])
theorem Same.x (h : okM a) (hl : a.externs.length = b.externs.length) {i : Nat} (hi : i < a.externs.length) : (sameX (a.externs.getD i (Extern.mk ByteArray.empty [] 0)) (b.externs.getD i (Extern.mk ByteArray.empty [] 0)) = true → Goes C37 U37 (R37 a b) k37_l0 (s37_l0 a b i [a] [b]) k37_l0 (s37_l0 a b (i + 1 : Nat) [a] [b])) ∧ (¬ sameX (a.externs.getD i (Extern.mk ByteArray.empty [] 0)) (b.externs.getD i (Extern.mk ByteArray.empty [] 0)) = true → Ends C37 U37 (R37 a b) k37_l0 (s37_l0 a b i [a] [b]) noE) := by
  obtain ⟨⟨a1, a2, a3, a4⟩, h1, h2, h3, h4⟩ := h
  have h5 := h1 _ (getD_mem (d := (Extern.mk ByteArray.empty [] 0)) hi)
  have key : ∀ (J : List Item → St Ty → EvR), run tb C37 U37 J (R37 a b) 4096 k37_l0 (s37_l0 a b i [a] [b]) = if sameX (a.externs.getD i (Extern.mk ByteArray.empty [] 0)) (b.externs.getD i (Extern.mk ByteArray.empty [] 0)) = true then J k37_l0 (s37_l0 a b (i + 1 : Nat) [a] [b]) else noE := fun J => by
    rw [e37_l0]
    simp only [Int.toNat_natCast, List.getD_cons_zero]
    unfold sameX
    simp (disch := first | omega | assumption | (rw [decide_eq_true_eq]; omega) | (rw [decide_eq_false_iff_not]; omega)) only [↓if_pos, ↓if_neg, if_true, if_false, wrap_up, Int.toNat_natCast, Nat.zero_add]
    generalize (a.externs.getD i (Extern.mk ByteArray.empty [] 0)) = x
    generalize (b.externs.getD i (Extern.mk ByteArray.empty [] 0)) = y
    cases e1 : x.name.toList == y.name.toList <;> cases e2 : x.result == y.result <;> cases e3 : same3 x.params y.params <;> simp [e2, bne] <;> rfl
  exact ⟨fun e => .step fun J => by rw [key, if_pos e], fun e => .step fun J => by rw [key, if_neg e]⟩
theorem Same.g (h : okM a) (hl : a.globals.length = b.globals.length) {i : Nat} (hi : i < a.globals.length) : (sameG (a.globals.getD i (Global.mk ByteArray.empty [])) (b.globals.getD i (Global.mk ByteArray.empty [])) = true → Goes C37 U37 (R37 a b) k37_l2 (s37_l2 a b i [a] [b]) k37_l2 (s37_l2 a b (i + 1 : Nat) [a] [b])) ∧ (¬ sameG (a.globals.getD i (Global.mk ByteArray.empty [])) (b.globals.getD i (Global.mk ByteArray.empty [])) = true → Ends C37 U37 (R37 a b) k37_l2 (s37_l2 a b i [a] [b]) noE) := by
  obtain ⟨⟨a1, a2, a3, a4⟩, h1, h2, h3, h4⟩ := h
  have h5 := h2 _ (getD_mem (d := (Global.mk ByteArray.empty [])) hi)
  have key : ∀ (J : List Item → St Ty → EvR), run tb C37 U37 J (R37 a b) 4096 k37_l2 (s37_l2 a b i [a] [b]) = if sameG (a.globals.getD i (Global.mk ByteArray.empty [])) (b.globals.getD i (Global.mk ByteArray.empty [])) = true then J k37_l2 (s37_l2 a b (i + 1 : Nat) [a] [b]) else noE := fun J => by
    rw [e37_l2]
    simp only [Int.toNat_natCast, List.getD_cons_zero]
    unfold sameG
    simp (disch := first | omega | assumption | (rw [decide_eq_true_eq]; omega) | (rw [decide_eq_false_iff_not]; omega)) only [↓if_pos, ↓if_neg, if_true, if_false, wrap_up, Int.toNat_natCast, Nat.zero_add]
    generalize (a.globals.getD i (Global.mk ByteArray.empty [])) = x
    generalize (b.globals.getD i (Global.mk ByteArray.empty [])) = y
    cases e1 : x.name.toList == y.name.toList <;> cases e3 : same3 x.cells y.cells <;> simp <;> rfl
  exact ⟨fun e => .step fun J => by rw [key, if_pos e], fun e => .step fun J => by rw [key, if_neg e]⟩
theorem Same.t (h : okM a) (hl : a.tables.length = b.tables.length) {i : Nat} (hi : i < a.tables.length) : (sameT (a.tables.getD i (Table.mk ByteArray.empty [])) (b.tables.getD i (Table.mk ByteArray.empty [])) = true → Goes C37 U37 (R37 a b) k37_l4 (s37_l4 a b i [a] [b]) k37_l4 (s37_l4 a b (i + 1 : Nat) [a] [b])) ∧ (¬ sameT (a.tables.getD i (Table.mk ByteArray.empty [])) (b.tables.getD i (Table.mk ByteArray.empty [])) = true → Ends C37 U37 (R37 a b) k37_l4 (s37_l4 a b i [a] [b]) noE) := by
  obtain ⟨⟨a1, a2, a3, a4⟩, h1, h2, h3, h4⟩ := h
  have h5 := h3 _ (getD_mem (d := (Table.mk ByteArray.empty [])) hi)
  have key : ∀ (J : List Item → St Ty → EvR), run tb C37 U37 J (R37 a b) 4096 k37_l4 (s37_l4 a b i [a] [b]) = if sameT (a.tables.getD i (Table.mk ByteArray.empty [])) (b.tables.getD i (Table.mk ByteArray.empty [])) = true then J k37_l4 (s37_l4 a b (i + 1 : Nat) [a] [b]) else noE := fun J => by
    rw [e37_l4]
    simp only [Int.toNat_natCast, List.getD_cons_zero]
    unfold sameT
    simp (disch := first | omega | assumption | (rw [decide_eq_true_eq]; omega) | (rw [decide_eq_false_iff_not]; omega)) only [↓if_pos, ↓if_neg, if_true, if_false, wrap_up, Int.toNat_natCast, Nat.zero_add]
    generalize (a.tables.getD i (Table.mk ByteArray.empty [])) = x
    generalize (b.tables.getD i (Table.mk ByteArray.empty [])) = y
    cases e1 : x.name.toList == y.name.toList <;> cases e3 : same3 x.funcs y.funcs <;> simp <;> rfl
  exact ⟨fun e => .step fun J => by rw [key, if_pos e], fun e => .step fun J => by rw [key, if_neg e]⟩
theorem Same.f (h : okM a) (hl : a.funcs.length = b.funcs.length) {i : Nat} (hi : i < a.funcs.length) : (sameFun (a.funcs.getD i (Func.mk ByteArray.empty false [] 0 [])) (b.funcs.getD i (Func.mk ByteArray.empty false [] 0 [])) = true → Goes C37 U37 (R37 a b) k37_l6 (s37_l6 a b i [a] [b]) k37_l6 (s37_l6 a b (i + 1 : Nat) [a] [b])) ∧ (¬ sameFun (a.funcs.getD i (Func.mk ByteArray.empty false [] 0 [])) (b.funcs.getD i (Func.mk ByteArray.empty false [] 0 [])) = true → Ends C37 U37 (R37 a b) k37_l6 (s37_l6 a b i [a] [b]) noE) := by
  obtain ⟨⟨a1, a2, a3, a4⟩, h1, h2, h3, h4⟩ := h
  have h5 := h4 _ (getD_mem (d := (Func.mk ByteArray.empty false [] 0 [])) hi)
  have key : ∀ (J : List Item → St Ty → EvR), run tb C37 U37 J (R37 a b) 4096 k37_l6 (s37_l6 a b i [a] [b]) = if sameFun (a.funcs.getD i (Func.mk ByteArray.empty false [] 0 [])) (b.funcs.getD i (Func.mk ByteArray.empty false [] 0 [])) = true then J k37_l6 (s37_l6 a b (i + 1 : Nat) [a] [b]) else noE := fun J => by
    rw [e37_l6]
    simp only [Int.toNat_natCast, List.getD_cons_zero]
    have e1 : (Func.mk (a.funcs.getD i (Func.mk ByteArray.empty false [] 0 [])).name (a.funcs.getD i (Func.mk ByteArray.empty false [] 0 [])).out (a.funcs.getD i (Func.mk ByteArray.empty false [] 0 [])).params (a.funcs.getD i (Func.mk ByteArray.empty false [] 0 [])).result (a.funcs.getD i (Func.mk ByteArray.empty false [] 0 [])).blocks) = a.funcs.getD i (Func.mk ByteArray.empty false [] 0 []) := rfl
    have e2 : (Func.mk (b.funcs.getD i (Func.mk ByteArray.empty false [] 0 [])).name (b.funcs.getD i (Func.mk ByteArray.empty false [] 0 [])).out (b.funcs.getD i (Func.mk ByteArray.empty false [] 0 [])).params (b.funcs.getD i (Func.mk ByteArray.empty false [] 0 [])).result (b.funcs.getD i (Func.mk ByteArray.empty false [] 0 [])).blocks) = b.funcs.getD i (Func.mk ByteArray.empty false [] 0 []) := rfl
    rw [e1, e2]
    simp (disch := first | omega | assumption | (rw [decide_eq_true_eq]; omega) | (rw [decide_eq_false_iff_not]; omega)) only [↓if_pos, ↓if_neg, if_true, if_false, wrap_up, Int.toNat_natCast, Nat.zero_add]
    cases e3 : sameFun (a.funcs.getD i (Func.mk ByteArray.empty false [] 0 [])) (b.funcs.getD i (Func.mk ByteArray.empty false [] 0 [])) <;> simp <;> rfl
  exact ⟨fun e => .step fun J => by rw [key, if_pos e], fun e => .step fun J => by rw [key, if_neg e]⟩
end
theorem same_ok (a b : Ev.Module) (h : okM a) : CallOk tb Try.prog 37 (a37 a b) (.v (.bool (sameMo a b))) [.dead, .dead] := by
  have h0 := h
  obtain ⟨⟨a1, a2, a3, a4⟩, h1, h2, h3, h4⟩ := h0
  refine fn37 a b ?_
  have no : ¬ sameMP a b → (some (.v (.bool (sameMo a b)), [.dead, .dead]) : EvR) = noE := fun h => by
    rw [show sameMo a b = false from decide_eq_false h]
  by_cases hl : a.externs.length = b.externs.length ∧ a.globals.length = b.globals.length ∧ a.tables.length = b.tables.length ∧ a.funcs.length = b.funcs.length
  · obtain ⟨l1, l2, l3, l4⟩ := hl
    refine Goes.ends (k' := k37_l0) (s' := s37_l0 a b (0 : Nat) [a] [b]) (.step fun J => ?_) ?_
    · rw [e37]
      simp only [l1, l2, l3, l4, bne_self_eq_false, Bool.false_eq_true, if_true, if_false]
      rfl
    refine Ends.all (rF := noE) (fun i => s37_l0 a b i [a] [b]) a.externs.length _ (fun i hi hp => (Same.x h l1 hi).1 hp) (fun i hi hp => (Same.x h l1 hi).2 hp) (fun hx => ?_) (fun hx => no fun e => hx e.2.1)
    refine Goes.ends (k' := k37_j0) (s' := s37_j0 a b [a] [b]) (.step fun J => ?_) (Goes.ends (.step fun J => e37_j0 ..) ?_)
    · rw [e37_l0]
      try simp only [List.getD_cons_zero]
      simp (disch := first | omega | assumption | (rw [decide_eq_true_eq]; omega) | (rw [decide_eq_false_iff_not]; omega)) only [↓if_pos, ↓if_neg, if_true, if_false, wrap_up, Int.toNat_natCast, Nat.zero_add]
    refine Ends.all (rF := noE) (fun i => s37_l2 a b i [a] [b]) a.globals.length _ (fun i hi hp => (Same.g h l2 hi).1 hp) (fun i hi hp => (Same.g h l2 hi).2 hp) (fun hg => ?_) (fun hx => no fun e => hx e.2.2.1)
    refine Goes.ends (k' := k37_j2) (s' := s37_j2 a b [a] [b]) (.step fun J => ?_) (Goes.ends (.step fun J => e37_j2 ..) ?_)
    · rw [e37_l2]
      try simp only [List.getD_cons_zero]
      simp (disch := first | omega | assumption | (rw [decide_eq_true_eq]; omega) | (rw [decide_eq_false_iff_not]; omega)) only [↓if_pos, ↓if_neg, if_true, if_false, wrap_up, Int.toNat_natCast, Nat.zero_add]
    refine Ends.all (rF := noE) (fun i => s37_l4 a b i [a] [b]) a.tables.length _ (fun i hi hp => (Same.t h l3 hi).1 hp) (fun i hi hp => (Same.t h l3 hi).2 hp) (fun ht => ?_) (fun hx => no fun e => hx e.2.2.2.1)
    refine Goes.ends (k' := k37_j4) (s' := s37_j4 a b [a] [b]) (.step fun J => ?_) (Goes.ends (.step fun J => e37_j4 ..) ?_)
    · rw [e37_l4]
      try simp only [List.getD_cons_zero]
      simp (disch := first | omega | assumption | (rw [decide_eq_true_eq]; omega) | (rw [decide_eq_false_iff_not]; omega)) only [↓if_pos, ↓if_neg, if_true, if_false, wrap_up, Int.toNat_natCast, Nat.zero_add]
    refine Ends.all (rF := noE) (fun i => s37_l6 a b i [a] [b]) a.funcs.length _ (fun i hi hp => (Same.f h l4 hi).1 hp) (fun i hi hp => (Same.f h l4 hi).2 hp) (fun hf => ?_) (fun hx => no fun e => hx e.2.2.2.2)
    refine Goes.ends (k' := k37_j6) (s' := s37_j6 a b) (.step fun J => ?_) (.step fun J => ?_)
    · rw [e37_l6]
      try simp only [List.getD_cons_zero]
      simp (disch := first | omega | assumption | (rw [decide_eq_true_eq]; omega) | (rw [decide_eq_false_iff_not]; omega)) only [↓if_pos, ↓if_neg, if_true, if_false, wrap_up, Int.toNat_natCast, Nat.zero_add]
    · rw [e37_j6, show sameMo a b = true from decide_eq_true ⟨⟨l1, l2, l3, l4⟩, hx, hg, ht, hf⟩]
  · rw [no fun e => hl e.1]
    refine .step fun J => ?_
    rw [e37]
    have ne : ∀ {x y : Nat}, x ≠ y → ((x : Int) != (y : Int)) = true := fun h => by simp; omega
    by_cases h1 : a.externs.length = b.externs.length
    · by_cases h2 : a.globals.length = b.globals.length
      · by_cases h3 : a.tables.length = b.tables.length
        · have h4 : ¬ a.funcs.length = b.funcs.length := fun h4 => hl ⟨h1, h2, h3, h4⟩
          simp only [h1, h2, h3, ne h4, bne_self_eq_false, if_true]
        · simp only [h1, h2, ne h3, bne_self_eq_false, if_true, Bool.true_eq_false, if_false]
      · simp only [h1, ne h2, bne_self_eq_false, if_true, Bool.true_eq_false, if_false]
    · simp only [ne h1, Bool.true_eq_false, if_false]
def S37 : List (AV Ty) → T (AV Ty × List (AV Ty))
  | [.agg x, .agg y] => match cod27.dec false x, cod27.dec false y with
    | some a, some b => .ite (okM a) (okM.dec a) (.ret (.v (.bool (sameMo a b)), [.dead, .dead])) .fail
    | _, _ => .fail
  | _ => .fail
theorem S37_ok (l : List (AV Ty)) (r : AV Ty) (outs : List (AV Ty)) (h : (S37 l).val = some (r, outs)) : CallOk tb Try.prog 37 l r outs := by
  unfold S37 at h
  split at h
  · rename_i x y
    split at h
    · rename_i a b e1 e2
      rcases ite_val h with ⟨e, h⟩ | ⟨_, h⟩
      · cases h
        have h1 := cod27_ok.dec false x a e1
        have h2 := cod27_ok.dec false y b e2
        subst h1 h2
        exact same_ok a b e
      · cases h
    · cases h
  · cases h
end Go.Proofs.Ytggibjbcbicpjaa.Ev
