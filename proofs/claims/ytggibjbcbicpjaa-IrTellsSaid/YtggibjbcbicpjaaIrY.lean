/- ir.Same, Whole, Uses; plnref3.Whole, Uses: what they come to. -/
import Derived.Test.YtggibjbcbicpjaaIrX
namespace Go.Proofs.Ytggibjbcbicpjaa.Ev
open Go
set_option linter.unusedVariables false
set_option linter.unusedSimpArgs false
theorem sameMo_eq (a b : Ev.Module) : sameMo a b = (eqX a.externs b.externs && (eqG a.globals b.globals && (eqT a.tables b.tables && eqF a.funcs b.funcs))) := by
  unfold sameMo eqX eqG eqT eqF
  rw [← Bool.decide_and, ← Bool.decide_and, ← Bool.decide_and]
  refine decide_eq_decide.2 ⟨fun ⟨⟨h1, h2, h3, h4⟩, h5, h6, h7, h8⟩ => ⟨⟨h1, h5⟩, ⟨h2, h6⟩, ⟨h3, h7⟩, h4, h8⟩, fun ⟨⟨h1, h5⟩, ⟨h2, h6⟩, ⟨h3, h7⟩, h4, h8⟩ => ⟨⟨h1, h2, h3, h4⟩, h5, h6, h7, h8⟩⟩
noncomputable def b48 : Code := bodyOf Try.f48
noncomputable def C48 : Cfg Ty := ⟨fun
  | 86 => some ([], S86)
  | 88 => some ([], S88)
  | 90 => some ([], S90)
  | 92 => some ([], S92)
  | _ => none, fun _ => false, 31, 0⟩
def U48 : Cuts := ⟨fun _ => none, fun _ => none, fun _ => none⟩
def a48 (a : Module) (b : Module) : List (AV Ty) := [.agg [.sl false (91 : Nat) a.externs, .sl false (94 : Nat) a.globals, .sl false (96 : Nat) a.tables, .sl false (33 : Nat) a.funcs], .agg [.sl false (91 : Nat) b.externs, .sl false (94 : Nat) b.globals, .sl false (96 : Nat) b.tables, .sl false (33 : Nat) b.funcs]]
noncomputable def R48 (a : Module) (b : Module) : St Ty → EvR := resT tb C48 Try.f48.results.toList .keep (a48 a b)
theorem e48 (J a b) : run tb C48 U48 J (R48 a b) 4096 [.code b48] ⟨slotsA (a48 a b) 0 0, heapA (a48 a b)⟩ =
 if cX a.externs then
 if eqX a.externs b.externs = true then
 if cG a.globals then
 if eqG a.globals b.globals = true then
 if cT a.tables then
 if eqT a.tables b.tables = true then
 if cF a.funcs then
 some (.v (.bool (eqF a.funcs b.funcs)), [.dead, .dead])
 else none
 else
 some (.v (.bool false), [.dead, .dead])
 else none
 else
 some (.v (.bool false), [.dead, .dead])
 else none
 else
 some (.v (.bool false), [.dead, .dead])
 else none := by kernel_rfl

theorem in48 : Entered 48 := ⟨Try.f48, b48, by kernel_rfl, by kernel_rfl, by kernel_rfl⟩
theorem fn48 (a b : Ev.Module) {res : AV Ty} {outs : List (AV Ty)} (h : Ends C48 U48 (R48 a b) [.code b48] ⟨slotsA (a48 a b) 0 0, heapA (a48 a b)⟩ (some (res, outs))) : CallOk tb Try.prog 48 (a48 a b) res outs := by
  obtain ⟨n0, hn⟩ := h
  exact fn_ok (C := C48) (U := U48) (n := 0 + n0) (q := .keep) tbOk good (fun f mu S h => by
    unfold C48 at h
    simp only at h
    split at h
    · cases h; exact ⟨in86, S86_ok⟩
    · cases h; exact ⟨in88, S88_ok⟩
    · cases h; exact ⟨in90, S90_ok⟩
    · cases h; exact ⟨in92, S92_ok⟩
    · cases h) mixed (fn := Try.f48) (body := b48) (by kernel_rfl) (by kernel_rfl) rfl rfl (by show 2 ≤ 31; omega) (hn 0)
theorem irSame_ok (a b : Ev.Module) (h : okM a) : CallOk tb Try.prog 48 (a48 a b) (.v (.bool (sameMo a b))) [.dead, .dead] := by
  obtain ⟨⟨a1, a2, a3, a4⟩, h1, h2, h3, h4⟩ := h
  have c1 : cX a.externs := ⟨a1, h1⟩
  have c2 : cG a.globals := ⟨a2, h2⟩
  have c3 : cT a.tables := ⟨a3, h3⟩
  have c4 : cF a.funcs := ⟨a4, h4⟩
  refine fn48 a b (.step fun J => ?_)
  rw [e48, sameMo_eq]
  simp only [c1, c2, c3, c4, if_true]
  cases eqX a.externs b.externs <;> cases eqG a.globals b.globals <;> cases eqT a.tables b.tables <;> simp
def S48 : List (AV Ty) → T (AV Ty × List (AV Ty))
  | [.agg x, .agg y] => match cod27.dec false x, cod27.dec false y with
    | some a, some b => .ite (okM a) (okM.dec a) (.ret (.v (.bool (sameMo a b)), [.dead, .dead])) .fail
    | _, _ => .fail
  | _ => .fail
theorem S48_ok (l : List (AV Ty)) (r : AV Ty) (outs : List (AV Ty)) (h : (S48 l).val = some (r, outs)) : CallOk tb Try.prog 48 l r outs := by
  unfold S48 at h
  split at h
  · rename_i x y
    split at h
    · rename_i a b e1 e2
      rcases ite_val h with ⟨e, h⟩ | ⟨_, h⟩
      · cases h
        have h1 := cod27_ok.dec false x a e1
        have h2 := cod27_ok.dec false y b e2
        subst h1 h2
        exact irSame_ok a b e
      · cases h
    · cases h
  · cases h
theorem szF_ok {l : List Ev.Func} (hl : l.length ≤ 1000) (h : ∀ f, f ∈ l → okF f) : szF l ≤ 1000000000 := by
  have : ∀ l : List Ev.Func, (∀ f, f ∈ l → okF f) → szF l ≤ l.length * 1000000 := fun l => by
    induction l with
    | nil => intro _; simp [szF]
    | cons f l ih =>
      intro h
      have h1 := ih fun x hx => h x (List.mem_cons_of_mem _ hx)
      have h2 := (h f List.mem_cons_self).sz
      simp only [szF, List.map_cons, List.sum_cons, List.length_cons, Nat.succ_mul] at h1 ⊢
      omega
  have h1 := this l h
  omega
noncomputable def b49 : Code := bodyOf Try.f49
noncomputable def C49 : Cfg Ty := ⟨fun
  | 51 => some ([], S51)
  | _ => none, fun _ => false, 19, 0⟩
def U49 : Cuts := ⟨fun
  | 0 => some [(3, none)]
  | _ => none, fun
  | 0 => some [(3, none), (7, none), (8, none), (9, none)]
  | _ => none, fun _ => none⟩
noncomputable def k49_j0 : List Item := [.code (sndC (sndC (sndC b49)))]
noncomputable def k49_l0 : List Item := [.code (inC (inC (sndC (fstC (sndC (sndC b49)))))), .inLoop (inC (inC (sndC (fstC (sndC (sndC b49)))))), .inBlock 0, .code (sndC (sndC (sndC b49)))]
def a49 (m : Module) : List (AV Ty) := [.agg [.sl false (91 : Nat) m.externs, .sl false (94 : Nat) m.globals, .sl false (96 : Nat) m.tables, .sl false (33 : Nat) m.funcs]]
noncomputable def R49 (m : Module) : St Ty → EvR := resT tb C49 Try.f49.results.toList .keep (a49 m)
def s49_l0 (m : Module) (v3 : Int) (v7 : List Func) (v8 : Int) (v9 : Int) : St Ty := St.mk [(3, .v (.int .i64 v3)), (7, .sl false (33) v7), (8, .v (.int .i64 v8)), (9, .v (.int .i64 v9))] []
def s49_j0 (m : Module) (v3 : Int) : St Ty := St.mk [(3, .v (.int .i64 v3))] []
theorem e49 (J m) : run tb C49 U49 J (R49 m) 4096 [.code b49] ⟨slotsA (a49 m) 0 0, heapA (a49 m)⟩ =
 J k49_l0 (s49_l0 m 0 m.funcs ((↑m.funcs.length : Int)) 0) := by kernel_rfl
theorem e49_l0 (J m v3 v7 v8 v9) : run tb C49 U49 J (R49 m) 4096 k49_l0 (s49_l0 m v3 v7 v8 v9) =
 if decide (v9 < v8) = true then
 if 0 ≤ v9 then
 if v9 < (↑v7.length : Int) then
 if okF (Func.mk (v7.getD v9.toNat (Func.mk ByteArray.empty false [] 0 [])).name (v7.getD v9.toNat (Func.mk ByteArray.empty false [] 0 [])).out (v7.getD v9.toNat (Func.mk ByteArray.empty false [] 0 [])).params (v7.getD v9.toNat (Func.mk ByteArray.empty false [] 0 [])).result (v7.getD v9.toNat (Func.mk ByteArray.empty false [] 0 [])).blocks) then
 J k49_l0 (s49_l0 m (IntKind.i64.wrap (v3 + (↑(szT (v7.getD v9.toNat (Func.mk ByteArray.empty false [] 0 [])).blocks) : Int))) v7 v8 (IntKind.i64.wrap (v9 + 1)))
 else none
 else none
 else none
 else
 J k49_j0 (s49_j0 m v3) := by kernel_rfl
theorem e49_j0 (J m v3) : run tb C49 U49 J (R49 m) 4096 k49_j0 (s49_j0 m v3) =
 some (.v (.int .i64 v3), [.dead]) := by kernel_rfl

theorem in49 : Entered 49 := ⟨Try.f49, b49, by kernel_rfl, by kernel_rfl, by kernel_rfl⟩
theorem fn49 (m : Ev.Module) {res : AV Ty} {outs : List (AV Ty)} (h : Ends C49 U49 (R49 m) [.code b49] ⟨slotsA (a49 m) 0 0, heapA (a49 m)⟩ (some (res, outs))) : CallOk tb Try.prog 49 (a49 m) res outs := by
  obtain ⟨n0, hn⟩ := h
  exact fn_ok (C := C49) (U := U49) (n := 0 + n0) (q := .keep) tbOk good (fun f mu S h => by
    unfold C49 at h
    simp only at h
    split at h
    · cases h; exact ⟨in51, S51_ok⟩
    · cases h) mixed (fn := Try.f49) (body := b49) (by kernel_rfl) (by kernel_rfl) rfl rfl (by show 1 ≤ 19; omega) (hn 0)
noncomputable def b50 : Code := bodyOf Try.f50
noncomputable def C50 : Cfg Ty := ⟨fun
  | 28 => some ([], S28)
  | _ => none, fun _ => false, 21, 0⟩
def U50 : Cuts := ⟨fun
  | 0 => some [(3, none)]
  | _ => none, fun
  | 0 => some [(1, none), (3, none), (4, none)]
  | _ => none, fun _ => none⟩
noncomputable def k50_j0 : List Item := [.code (sndC (sndC (sndC b50)))]
noncomputable def k50_l0 : List Item := [.code (inC (inC (sndC (fstC (sndC (sndC b50)))))), .inLoop (inC (inC (sndC (fstC (sndC (sndC b50)))))), .inBlock 0, .code (sndC (sndC (sndC b50)))]
def a50 (m : Module) : List (AV Ty) := [.agg [.sl false (91 : Nat) m.externs, .sl false (94 : Nat) m.globals, .sl false (96 : Nat) m.tables, .sl false (33 : Nat) m.funcs]]
noncomputable def R50 (m : Module) : St Ty → EvR := resT tb C50 Try.f50.results.toList .keep (a50 m)
def s50_l0 (m : Module) (v3 : Int) (v4 : Int) (h0 : List Module) : St Ty := St.mk [(1, .ptr (0) [] (0) (0)), (3, .v (.int .i64 v3)), (4, .v (.int .i64 v4))] [some (Root.mk (27) false h0)]
def s50_j0 (m : Module) (v3 : Int) : St Ty := St.mk [(3, .v (.int .i64 v3))] []
theorem e50 (J m) : run tb C50 U50 J (R50 m) 4096 [.code b50] ⟨slotsA (a50 m) 0 0, heapA (a50 m)⟩ =
 J k50_l0 (s50_l0 m 0 0 ([Module.mk m.externs m.globals m.tables m.funcs])) := by kernel_rfl
theorem e50_l0 (J m v3 v4 h0) : run tb C50 U50 J (R50 m) 4096 k50_l0 (s50_l0 m v3 v4 h0) =
 if decide (v4 < (↑(h0.getD (0) (Module.mk [] [] [] [])).funcs.length : Int)) = true then
 if 0 ≤ v4 then
 if v4 < (↑(h0.getD (0) (Module.mk [] [] [] [])).funcs.length : Int) then
 if okF (Func.mk ((h0.getD (0) (Module.mk [] [] [] [])).funcs.getD v4.toNat (Func.mk ByteArray.empty false [] 0 [])).name ((h0.getD (0) (Module.mk [] [] [] [])).funcs.getD v4.toNat (Func.mk ByteArray.empty false [] 0 [])).out ((h0.getD (0) (Module.mk [] [] [] [])).funcs.getD v4.toNat (Func.mk ByteArray.empty false [] 0 [])).params ((h0.getD (0) (Module.mk [] [] [] [])).funcs.getD v4.toNat (Func.mk ByteArray.empty false [] 0 [])).result ((h0.getD (0) (Module.mk [] [] [] [])).funcs.getD v4.toNat (Func.mk ByteArray.empty false [] 0 [])).blocks) then
 J k50_l0 (s50_l0 m (IntKind.i64.wrap (v3 + (↑(szT ((h0.getD (0) (Module.mk [] [] [] [])).funcs.getD v4.toNat (Func.mk ByteArray.empty false [] 0 [])).blocks) : Int))) (IntKind.i64.wrap (v4 + 1)) h0)
 else none
 else none
 else none
 else
 J k50_j0 (s50_j0 m v3) := by kernel_rfl
theorem e50_j0 (J m v3) : run tb C50 U50 J (R50 m) 4096 k50_j0 (s50_j0 m v3) =
 some (.v (.int .i64 v3), [.dead]) := by kernel_rfl

theorem in50 : Entered 50 := ⟨Try.f50, b50, by kernel_rfl, by kernel_rfl, by kernel_rfl⟩
theorem fn50 (m : Ev.Module) {res : AV Ty} {outs : List (AV Ty)} (h : Ends C50 U50 (R50 m) [.code b50] ⟨slotsA (a50 m) 0 0, heapA (a50 m)⟩ (some (res, outs))) : CallOk tb Try.prog 50 (a50 m) res outs := by
  obtain ⟨n0, hn⟩ := h
  exact fn_ok (C := C50) (U := U50) (n := 0 + n0) (q := .keep) tbOk good (fun f mu S h => by
    unfold C50 at h
    simp only at h
    split at h
    · cases h; exact ⟨in28, S28_ok⟩
    · cases h) mixed (fn := Try.f50) (body := b50) (by kernel_rfl) (by kernel_rfl) rfl rfl (by show 1 ≤ 21; omega) (hn 0)
section
variable {m : Ev.Module}
theorem Whole.facts (h : okM m) {i : Nat} (hi : i < m.funcs.length) : szF (m.funcs.take i) ≤ 1000000000 ∧ szT (m.funcs.getD i (Func.mk ByteArray.empty false [] 0 [])).blocks ≤ 1000000 ∧ okF (m.funcs.getD i (Func.mk ByteArray.empty false [] 0 [])) := by
  have hf := h.2.2.2.2
  exact ⟨szF_ok (by rw [List.length_take]; have := h.1.2.2.2; omega) fun f hm => hf f (List.mem_of_mem_take hm), (hf _ (getD_mem hi)).sz, hf _ (getD_mem hi)⟩
theorem Whole.i (h : okM m) {i : Nat} (hi : i < m.funcs.length) : Goes C49 U49 (R49 m) k49_l0 (s49_l0 m (szF (m.funcs.take i)) m.funcs m.funcs.length i) k49_l0 (s49_l0 m (szF (m.funcs.take (i + 1))) m.funcs m.funcs.length (i + 1 : Nat)) := .step fun J => by
  have e : (Func.mk (m.funcs.getD i (Func.mk ByteArray.empty false [] 0 [])).name (m.funcs.getD i (Func.mk ByteArray.empty false [] 0 [])).out (m.funcs.getD i (Func.mk ByteArray.empty false [] 0 [])).params (m.funcs.getD i (Func.mk ByteArray.empty false [] 0 [])).result (m.funcs.getD i (Func.mk ByteArray.empty false [] 0 [])).blocks) = m.funcs.getD i (Func.mk ByteArray.empty false [] 0 []) := rfl
  obtain ⟨h1, h2, h3⟩ := Whole.facts h hi
  have h4 := h.1.2.2.2
  have w : IntKind.i64.wrap ((szF (m.funcs.take i) : Int) + szT (m.funcs.getD i (Func.mk ByteArray.empty false [] 0 [])).blocks) = ((szF (m.funcs.take i) + szT (m.funcs.getD i (Func.mk ByteArray.empty false [] 0 [])).blocks : Nat) : Int) := wrap_nat (by omega) (by omega)
  rw [e49_l0, szF_step hi]
  simp only [Int.toNat_natCast]
  simp only [e, w]
  simp (disch := first | omega | assumption | (rw [decide_eq_true_eq]; omega) | (rw [decide_eq_false_iff_not]; omega)) only [↓if_pos, ↓if_neg, if_true, if_false, wrap_up, Int.toNat_natCast, Nat.zero_add]
  rfl
theorem Whole.r (h : okM m) {i : Nat} (hi : i < m.funcs.length) : Goes C50 U50 (R50 m) k50_l0 (s50_l0 m (szF (m.funcs.take i)) i [m]) k50_l0 (s50_l0 m (szF (m.funcs.take (i + 1))) (i + 1 : Nat) [m]) := .step fun J => by
  have e : (Func.mk (m.funcs.getD i (Func.mk ByteArray.empty false [] 0 [])).name (m.funcs.getD i (Func.mk ByteArray.empty false [] 0 [])).out (m.funcs.getD i (Func.mk ByteArray.empty false [] 0 [])).params (m.funcs.getD i (Func.mk ByteArray.empty false [] 0 [])).result (m.funcs.getD i (Func.mk ByteArray.empty false [] 0 [])).blocks) = m.funcs.getD i (Func.mk ByteArray.empty false [] 0 []) := rfl
  obtain ⟨h1, h2, h3⟩ := Whole.facts h hi
  have h4 := h.1.2.2.2
  have w : IntKind.i64.wrap ((szF (m.funcs.take i) : Int) + szT (m.funcs.getD i (Func.mk ByteArray.empty false [] 0 [])).blocks) = ((szF (m.funcs.take i) + szT (m.funcs.getD i (Func.mk ByteArray.empty false [] 0 [])).blocks : Nat) : Int) := wrap_nat (by omega) (by omega)
  rw [e50_l0, szF_step hi]
  simp only [Int.toNat_natCast, List.getD_cons_zero]
  simp only [e, w]
  simp (disch := first | omega | assumption | (rw [decide_eq_true_eq]; omega) | (rw [decide_eq_false_iff_not]; omega)) only [↓if_pos, ↓if_neg, if_true, if_false, wrap_up, Int.toNat_natCast, Nat.zero_add]
  rfl
end
theorem whole_ok (m : Ev.Module) (h : okM m) : CallOk tb Try.prog 49 (a49 m) (.v (.int .i64 (szF m.funcs))) [.dead] := by
  have h4 := h.1.2.2.2
  refine fn49 m (Goes.ends (k' := k49_l0) (s' := s49_l0 m (szF (m.funcs.take 0)) m.funcs m.funcs.length (0 : Nat)) (.step fun J => by rw [e49]; rfl) (Goes.ends (Goes.upto (fun i => s49_l0 m (szF (m.funcs.take i)) m.funcs m.funcs.length i) m.funcs.length (fun i hi => Whole.i h hi) _ (Nat.le_refl _)) (Goes.ends (k' := k49_j0) (s' := s49_j0 m (szF m.funcs)) (.step fun J => ?_) (.step fun J => e49_j0 ..))))
  rw [e49_l0]
  simp (disch := first | omega | assumption | (rw [decide_eq_true_eq]; omega) | (rw [decide_eq_false_iff_not]; omega)) only [↓if_pos, ↓if_neg, if_true, if_false, wrap_up, Int.toNat_natCast, Nat.zero_add, List.take_length]
theorem rwhole_ok (m : Ev.Module) (h : okM m) : CallOk tb Try.prog 50 (a50 m) (.v (.int .i64 (szF m.funcs))) [.dead] := by
  have h4 := h.1.2.2.2
  refine fn50 m (Goes.ends (k' := k50_l0) (s' := s50_l0 m (szF (m.funcs.take 0)) (0 : Nat) [m]) (.step fun J => by rw [e50]; rfl) (Goes.ends (Goes.upto (fun i => s50_l0 m (szF (m.funcs.take i)) i [m]) m.funcs.length (fun i hi => Whole.r h hi) _ (Nat.le_refl _)) (Goes.ends (k' := k50_j0) (s' := s50_j0 m (szF m.funcs)) (.step fun J => ?_) (.step fun J => e50_j0 ..))))
  rw [e50_l0]
  simp only [List.getD_cons_zero]
  simp (disch := first | omega | assumption | (rw [decide_eq_true_eq]; omega) | (rw [decide_eq_false_iff_not]; omega)) only [↓if_pos, ↓if_neg, if_true, if_false, wrap_up, Int.toNat_natCast, Nat.zero_add, List.take_length]
def useV (out : List Int) (v : Int) : List Int := if 0 ≤ v ∧ v < out.length then out.set v.toNat (IntKind.i64.wrap (out.getD v.toNat 0 + 1)) else out
def useI (out : List Int) (i : Ev.Ins) : List Int := i.args.foldl useV out
def useB (out : List Int) (b : Ev.Block) : List Int := b.ins.foldl useI out
def usesOf (f : Ev.Func) : List Int := f.blocks.foldl useB (List.replicate (typesOf f).length 0)
theorem fold_step {α β : Type} {g : β → α → β} {l : List α} {d : α} {x : β} {i : Nat} (h : i < l.length) : (l.take (i + 1)).foldl g x = g ((l.take i).foldl g x) (l.getD i d) := by
  rw [take_step (d := d) h, List.foldl_append]
  rfl
noncomputable def b53 : Code := bodyOf Try.f53
noncomputable def C53 : Cfg Ty := ⟨fun
  | 31 => some ([], S31)
  | _ => none, fun
  | 3 => true
  | _ => false, 53, 0⟩
def U53 : Cuts := ⟨fun
  | 0 => some [(3, none)]
  | 1 => some [(3, none), (15, none), (16, none), (17, none)]
  | 2 => some [(3, none), (15, none), (16, none), (17, none)]
  | 3 => some [(3, none), (15, none), (16, none), (17, none), (22, none), (23, none), (24, none)]
  | 4 => some [(3, none), (15, none), (16, none), (17, none), (22, none), (23, none), (24, none)]
  | _ => none, fun
  | 0 => some [(3, none), (15, none), (16, none), (17, none)]
  | 2 => some [(3, none), (15, none), (16, none), (17, none), (22, none), (23, none), (24, none)]
  | 4 => some [(3, none), (15, none), (16, none), (17, none), (22, none), (23, none), (24, none), (29, none), (30, none), (31, none)]
  | _ => none, fun _ => none⟩
noncomputable def k53_j0 : List Item := [.code (sndC (sndC (sndC b53)))]
noncomputable def k53_l0 : List Item := [.code (inC (inC (sndC (fstC (sndC (sndC b53)))))), .inLoop (inC (inC (sndC (fstC (sndC (sndC b53)))))), .inBlock 0, .code (sndC (sndC (sndC b53)))]
noncomputable def k53_j1 : List Item := [.code (sndC (sndC (sndC (inC (inC (sndC (fstC (sndC (sndC b53))))))))), .inLoop (inC (inC (sndC (fstC (sndC (sndC b53)))))), .inBlock 0, .code (sndC (sndC (sndC b53)))]
noncomputable def k53_j2 : List Item := [.inBlock 1, .code (sndC (sndC (sndC (inC (inC (sndC (fstC (sndC (sndC b53))))))))), .inLoop (inC (inC (sndC (fstC (sndC (sndC b53)))))), .inBlock 0, .code (sndC (sndC (sndC b53)))]
noncomputable def k53_l2 : List Item := [.code (inC (inC (sndC (sndC (inC (fstC (sndC (sndC (inC (inC (sndC (fstC (sndC (sndC b53)))))))))))))), .inLoop (inC (inC (sndC (sndC (inC (fstC (sndC (sndC (inC (inC (sndC (fstC (sndC (sndC b53)))))))))))))), .inBlock 2, .inBlock 1, .code (sndC (sndC (sndC (inC (inC (sndC (fstC (sndC (sndC b53))))))))), .inLoop (inC (inC (sndC (fstC (sndC (sndC b53)))))), .inBlock 0, .code (sndC (sndC (sndC b53)))]
noncomputable def k53_j3 : List Item := [.code (sndC (sndC (sndC (inC (inC (sndC (sndC (inC (fstC (sndC (sndC (inC (inC (sndC (fstC (sndC (sndC b53))))))))))))))))), .inLoop (inC (inC (sndC (sndC (inC (fstC (sndC (sndC (inC (inC (sndC (fstC (sndC (sndC b53)))))))))))))), .inBlock 2, .inBlock 1, .code (sndC (sndC (sndC (inC (inC (sndC (fstC (sndC (sndC b53))))))))), .inLoop (inC (inC (sndC (fstC (sndC (sndC b53)))))), .inBlock 0, .code (sndC (sndC (sndC b53)))]
noncomputable def k53_j4 : List Item := [.inBlock 3, .code (sndC (sndC (sndC (inC (inC (sndC (sndC (inC (fstC (sndC (sndC (inC (inC (sndC (fstC (sndC (sndC b53))))))))))))))))), .inLoop (inC (inC (sndC (sndC (inC (fstC (sndC (sndC (inC (inC (sndC (fstC (sndC (sndC b53)))))))))))))), .inBlock 2, .inBlock 1, .code (sndC (sndC (sndC (inC (inC (sndC (fstC (sndC (sndC b53))))))))), .inLoop (inC (inC (sndC (fstC (sndC (sndC b53)))))), .inBlock 0, .code (sndC (sndC (sndC b53)))]
noncomputable def k53_l4 : List Item := [.code (inC (inC (sndC (sndC (inC (fstC (sndC (sndC (inC (inC (sndC (sndC (inC (fstC (sndC (sndC (inC (inC (sndC (fstC (sndC (sndC b53)))))))))))))))))))))), .inLoop (inC (inC (sndC (sndC (inC (fstC (sndC (sndC (inC (inC (sndC (sndC (inC (fstC (sndC (sndC (inC (inC (sndC (fstC (sndC (sndC b53)))))))))))))))))))))), .inBlock 4, .inBlock 3, .code (sndC (sndC (sndC (inC (inC (sndC (sndC (inC (fstC (sndC (sndC (inC (inC (sndC (fstC (sndC (sndC b53))))))))))))))))), .inLoop (inC (inC (sndC (sndC (inC (fstC (sndC (sndC (inC (inC (sndC (fstC (sndC (sndC b53)))))))))))))), .inBlock 2, .inBlock 1, .code (sndC (sndC (sndC (inC (inC (sndC (fstC (sndC (sndC b53))))))))), .inLoop (inC (inC (sndC (fstC (sndC (sndC b53)))))), .inBlock 0, .code (sndC (sndC (sndC b53)))]
def a53 (f : Func) : List (AV Ty) := [.agg [.v (.string f.name), .v (.bool f.out), .sl false (3 : Nat) f.params, .v (.int .i64 f.result), .sl false (44 : Nat) f.blocks]]
noncomputable def R53 (f : Func) : St Ty → EvR := resT tb C53 Try.f53.results.toList (.own 3) (a53 f)
def s53_l0 (f : Func) (v15 : List Block) (v16 : Int) (v17 : Int) (h0 : List Int) : St Ty := St.mk [(3, .ref (0) [] none false), (15, .sl false (44) v15), (16, .v (.int .i64 v16)), (17, .v (.int .i64 v17))] [some (Root.mk (3) false h0)]
def s53_l2 (f : Func) (v15 : List Block) (v16 : Int) (v17 : Int) (v22 : List Ins) (v23 : Int) (v24 : Int) (h0 : List Int) : St Ty := St.mk [(3, .ref (0) [] none false), (15, .sl false (44) v15), (16, .v (.int .i64 v16)), (17, .v (.int .i64 v17)), (22, .sl false (46) v22), (23, .v (.int .i64 v23)), (24, .v (.int .i64 v24))] [some (Root.mk (3) false h0)]
def s53_j0 (f : Func) (h0 : List Int) : St Ty := St.mk [(3, .ref (0) [] none false)] [some (Root.mk (3) false h0)]
def s53_l4 (f : Func) (v15 : List Block) (v16 : Int) (v17 : Int) (v22 : List Ins) (v23 : Int) (v24 : Int) (v29 : List Int) (v30 : Int) (v31 : Int) (h0 : List Int) : St Ty := St.mk [(3, .ref (0) [] none false), (15, .sl false (44) v15), (16, .v (.int .i64 v16)), (17, .v (.int .i64 v17)), (22, .sl false (46) v22), (23, .v (.int .i64 v23)), (24, .v (.int .i64 v24)), (29, .sl false (3) v29), (30, .v (.int .i64 v30)), (31, .v (.int .i64 v31))] [some (Root.mk (3) false h0)]
def s53_j2 (f : Func) (v15 : List Block) (v16 : Int) (v17 : Int) (h0 : List Int) : St Ty := St.mk [(3, .ref (0) [] none false), (15, .sl false (44) v15), (16, .v (.int .i64 v16)), (17, .v (.int .i64 v17))] [some (Root.mk (3) false h0)]
def s53_j4 (f : Func) (v15 : List Block) (v16 : Int) (v17 : Int) (v22 : List Ins) (v23 : Int) (v24 : Int) (h0 : List Int) : St Ty := St.mk [(3, .ref (0) [] none false), (15, .sl false (44) v15), (16, .v (.int .i64 v16)), (17, .v (.int .i64 v17)), (22, .sl false (46) v22), (23, .v (.int .i64 v23)), (24, .v (.int .i64 v24))] [some (Root.mk (3) false h0)]
def s53_j1 (f : Func) (v15 : List Block) (v16 : Int) (v17 : Int) (h0 : List Int) : St Ty := St.mk [(3, .ref (0) [] none false), (15, .sl false (44) v15), (16, .v (.int .i64 v16)), (17, .v (.int .i64 v17))] [some (Root.mk (3) false h0)]
def s53_j3 (f : Func) (v15 : List Block) (v16 : Int) (v17 : Int) (v22 : List Ins) (v23 : Int) (v24 : Int) (h0 : List Int) : St Ty := St.mk [(3, .ref (0) [] none false), (15, .sl false (44) v15), (16, .v (.int .i64 v16)), (17, .v (.int .i64 v17)), (22, .sl false (46) v22), (23, .v (.int .i64 v23)), (24, .v (.int .i64 v24))] [some (Root.mk (3) false h0)]
theorem e53 (J f) : run tb C53 U53 J (R53 f) 4096 [.code b53] ⟨slotsA (a53 f) 0 0, heapA (a53 f)⟩ =
 if okF (Func.mk f.name f.out f.params f.result f.blocks) then
 if 0 ≤ IntKind.i64.wrap ((↑(typesOf (Func.mk f.name f.out f.params f.result f.blocks)).length : Int) - 1 + 1) ∧ IntKind.i64.wrap ((↑(typesOf (Func.mk f.name f.out f.params f.result f.blocks)).length : Int) - 1 + 1) ≤ IntKind.i64.wrap ((↑(typesOf (Func.mk f.name f.out f.params f.result f.blocks)).length : Int) - 1 + 1) ∧ IntKind.i64.wrap ((↑(typesOf (Func.mk f.name f.out f.params f.result f.blocks)).length : Int) - 1 + 1) ≤ 1099511627776 ∧ IntKind.i64.wrap ((↑(typesOf (Func.mk f.name f.out f.params f.result f.blocks)).length : Int) - 1 + 1) * (↑8 : Int) ≤ 1099511627776 then
 J k53_l0 (s53_l0 f f.blocks ((↑f.blocks.length : Int)) 0 (List.replicate (IntKind.i64.wrap ((↑(typesOf (Func.mk f.name f.out f.params f.result f.blocks)).length : Int) - 1 + 1)).toNat 0))
 else none
 else none := by kernel_rfl
theorem e53_l0 (J f v15 v16 v17 h0) : run tb C53 U53 J (R53 f) 4096 k53_l0 (s53_l0 f v15 v16 v17 h0) =
 if decide (v17 < v16) = true then
 if 0 ≤ v17 then
 if v17 < (↑v15.length : Int) then
 J k53_l2 (s53_l2 f v15 v16 v17 ((v15.getD v17.toNat (Block.mk [])).ins) ((↑(v15.getD v17.toNat (Block.mk [])).ins.length : Int)) 0 h0)
 else none
 else none
 else
 J k53_j0 (s53_j0 f h0) := by kernel_rfl
theorem e53_l2 (J f v15 v16 v17 v22 v23 v24 h0) : run tb C53 U53 J (R53 f) 4096 k53_l2 (s53_l2 f v15 v16 v17 v22 v23 v24 h0) =
 if decide (v24 < v23) = true then
 if 0 ≤ v24 then
 if v24 < (↑v22.length : Int) then
 J k53_l4 (s53_l4 f v15 v16 v17 v22 v23 v24 ((v22.getD v24.toNat (Ins.mk 0 0 0 0 0 [] [])).args) ((↑(v22.getD v24.toNat (Ins.mk 0 0 0 0 0 [] [])).args.length : Int)) 0 h0)
 else none
 else none
 else
 J k53_j2 (s53_j2 f v15 v16 v17 h0) := by kernel_rfl
theorem e53_j0 (J f h0) : run tb C53 U53 J (R53 f) 4096 k53_j0 (s53_j0 f h0) =
 some (.sl false (3) h0, [.dead]) := by kernel_rfl
theorem e53_l4 (J f v15 v16 v17 v22 v23 v24 v29 v30 v31 h0) : run tb C53 U53 J (R53 f) 4096 k53_l4 (s53_l4 f v15 v16 v17 v22 v23 v24 v29 v30 v31 h0) =
 if decide (v31 < v30) = true then
 if 0 ≤ v31 then
 if v31 < (↑v29.length : Int) then
 if decide (v29.getD v31.toNat 0 ≥ 0) = true then
 if decide (v29.getD v31.toNat 0 < (↑h0.length : Int)) = true then
 if 0 ≤ v29.getD v31.toNat 0 then
 if v29.getD v31.toNat 0 < (↑h0.length : Int) then
 if 0 ≤ v29.getD v31.toNat 0 then
 if v29.getD v31.toNat 0 < (↑h0.length : Int) then
 J k53_l4 (s53_l4 f v15 v16 v17 v22 v23 v24 v29 v30 (IntKind.i64.wrap (v31 + 1)) (h0.set (0 + Int.toNat (v29.getD v31.toNat 0)) (IntKind.i64.wrap (h0.getD (0 + Int.toNat (v29.getD v31.toNat 0)) 0 + 1))))
 else none
 else none
 else none
 else none
 else
 J k53_l4 (s53_l4 f v15 v16 v17 v22 v23 v24 v29 v30 (IntKind.i64.wrap (v31 + 1)) h0)
 else
 J k53_l4 (s53_l4 f v15 v16 v17 v22 v23 v24 v29 v30 (IntKind.i64.wrap (v31 + 1)) h0)
 else none
 else none
 else
 J k53_j4 (s53_j4 f v15 v16 v17 v22 v23 v24 h0) := by kernel_rfl
theorem e53_j2 (J f v15 v16 v17 h0) : run tb C53 U53 J (R53 f) 4096 k53_j2 (s53_j2 f v15 v16 v17 h0) =
 J k53_j1 (s53_j1 f v15 v16 v17 h0) := by kernel_rfl
theorem e53_j4 (J f v15 v16 v17 v22 v23 v24 h0) : run tb C53 U53 J (R53 f) 4096 k53_j4 (s53_j4 f v15 v16 v17 v22 v23 v24 h0) =
 J k53_j3 (s53_j3 f v15 v16 v17 v22 v23 v24 h0) := by kernel_rfl
theorem e53_j1 (J f v15 v16 v17 h0) : run tb C53 U53 J (R53 f) 4096 k53_j1 (s53_j1 f v15 v16 v17 h0) =
 J k53_l0 (s53_l0 f v15 v16 (IntKind.i64.wrap (v17 + 1)) h0) := by kernel_rfl
theorem e53_j3 (J f v15 v16 v17 v22 v23 v24 h0) : run tb C53 U53 J (R53 f) 4096 k53_j3 (s53_j3 f v15 v16 v17 v22 v23 v24 h0) =
 J k53_l2 (s53_l2 f v15 v16 v17 v22 v23 (IntKind.i64.wrap (v24 + 1)) h0) := by kernel_rfl

theorem in53 : Entered 53 := ⟨Try.f53, b53, by kernel_rfl, by kernel_rfl, by kernel_rfl⟩
theorem fn53 (f : Ev.Func) {res : AV Ty} {outs : List (AV Ty)} (h : Ends C53 U53 (R53 f) [.code b53] ⟨slotsA (a53 f) 0 0, heapA (a53 f)⟩ (some (res, outs))) : CallOk tb Try.prog 53 (a53 f) res outs := by
  obtain ⟨n0, hn⟩ := h
  exact fn_ok (C := C53) (U := U53) (n := 0 + n0) (q := (.own 3)) tbOk good (fun f mu S h => by
    unfold C53 at h
    simp only at h
    split at h
    · cases h; exact ⟨in31, S31_ok⟩
    · cases h) mixed (fn := Try.f53) (body := b53) (by kernel_rfl) (by kernel_rfl) rfl rfl (by show 1 ≤ 53; omega) (hn 0)
noncomputable def b22 : Code := bodyOf Try.f22
noncomputable def C22 : Cfg Ty := ⟨fun
  | 21 => some ([], S21)
  | _ => none, fun
  | 3 => true
  | _ => false, 70, 0⟩
def U22 : Cuts := ⟨fun
  | 0 => some [(3, none)]
  | 1 => some [(1, none), (3, none), (4, none)]
  | 2 => some [(1, none), (3, none), (4, none)]
  | 3 => some [(1, none), (3, none), (4, none), (5, none)]
  | 4 => some [(1, none), (3, none), (4, none), (5, none)]
  | _ => none, fun
  | 0 => some [(1, none), (3, none), (4, none)]
  | 2 => some [(1, none), (3, none), (4, none), (5, none)]
  | 4 => some [(1, none), (3, none), (4, none), (5, none), (6, none), (7, none)]
  | _ => none, fun _ => none⟩
noncomputable def k22_j0 : List Item := [.code (sndC (sndC (sndC b22)))]
noncomputable def k22_l0 : List Item := [.code (inC (inC (sndC (fstC (sndC (sndC b22)))))), .inLoop (inC (inC (sndC (fstC (sndC (sndC b22)))))), .inBlock 0, .code (sndC (sndC (sndC b22)))]
noncomputable def k22_j1 : List Item := [.code (sndC (sndC (inC (inC (sndC (fstC (sndC (sndC b22)))))))), .inLoop (inC (inC (sndC (fstC (sndC (sndC b22)))))), .inBlock 0, .code (sndC (sndC (sndC b22)))]
noncomputable def k22_j2 : List Item := [.inBlock 1, .code (sndC (sndC (inC (inC (sndC (fstC (sndC (sndC b22)))))))), .inLoop (inC (inC (sndC (fstC (sndC (sndC b22)))))), .inBlock 0, .code (sndC (sndC (sndC b22)))]
noncomputable def k22_l2 : List Item := [.code (inC (inC (sndC (inC (fstC (sndC (inC (inC (sndC (fstC (sndC (sndC b22)))))))))))), .inLoop (inC (inC (sndC (inC (fstC (sndC (inC (inC (sndC (fstC (sndC (sndC b22)))))))))))), .inBlock 2, .inBlock 1, .code (sndC (sndC (inC (inC (sndC (fstC (sndC (sndC b22)))))))), .inLoop (inC (inC (sndC (fstC (sndC (sndC b22)))))), .inBlock 0, .code (sndC (sndC (sndC b22)))]
noncomputable def k22_j3 : List Item := [.code (sndC (sndC (inC (inC (sndC (inC (fstC (sndC (inC (inC (sndC (fstC (sndC (sndC b22)))))))))))))), .inLoop (inC (inC (sndC (inC (fstC (sndC (inC (inC (sndC (fstC (sndC (sndC b22)))))))))))), .inBlock 2, .inBlock 1, .code (sndC (sndC (inC (inC (sndC (fstC (sndC (sndC b22)))))))), .inLoop (inC (inC (sndC (fstC (sndC (sndC b22)))))), .inBlock 0, .code (sndC (sndC (sndC b22)))]
noncomputable def k22_j4 : List Item := [.inBlock 3, .code (sndC (sndC (inC (inC (sndC (inC (fstC (sndC (inC (inC (sndC (fstC (sndC (sndC b22)))))))))))))), .inLoop (inC (inC (sndC (inC (fstC (sndC (inC (inC (sndC (fstC (sndC (sndC b22)))))))))))), .inBlock 2, .inBlock 1, .code (sndC (sndC (inC (inC (sndC (fstC (sndC (sndC b22)))))))), .inLoop (inC (inC (sndC (fstC (sndC (sndC b22)))))), .inBlock 0, .code (sndC (sndC (sndC b22)))]
noncomputable def k22_l4 : List Item := [.code (inC (inC (sndC (sndC (inC (fstC (sndC (inC (inC (sndC (inC (fstC (sndC (inC (inC (sndC (fstC (sndC (sndC b22))))))))))))))))))), .inLoop (inC (inC (sndC (sndC (inC (fstC (sndC (inC (inC (sndC (inC (fstC (sndC (inC (inC (sndC (fstC (sndC (sndC b22))))))))))))))))))), .inBlock 4, .inBlock 3, .code (sndC (sndC (inC (inC (sndC (inC (fstC (sndC (inC (inC (sndC (fstC (sndC (sndC b22)))))))))))))), .inLoop (inC (inC (sndC (inC (fstC (sndC (inC (inC (sndC (fstC (sndC (sndC b22)))))))))))), .inBlock 2, .inBlock 1, .code (sndC (sndC (inC (inC (sndC (fstC (sndC (sndC b22)))))))), .inLoop (inC (inC (sndC (fstC (sndC (sndC b22)))))), .inBlock 0, .code (sndC (sndC (sndC b22)))]
def a22 (f : Func) : List (AV Ty) := [.agg [.v (.string f.name), .v (.bool f.out), .sl false (3 : Nat) f.params, .v (.int .i64 f.result), .sl false (44 : Nat) f.blocks]]
noncomputable def R22 (f : Func) : St Ty → EvR := resT tb C22 Try.f22.results.toList (.own 3) (a22 f)
def s22_l0 (f : Func) (v4 : Int) (h0 : List Func) (h1 : List Int) : St Ty := St.mk [(1, .ptr (0) [] (0) (0)), (3, .ref (1) [] none false), (4, .v (.int .i64 v4))] [some (Root.mk (33) false h0), some (Root.mk (3) false h1)]
def s22_l2 (f : Func) (v4 : Int) (v5 : Int) (h0 : List Func) (h1 : List Int) : St Ty := St.mk [(1, .ptr (0) [] (0) (0)), (3, .ref (1) [] none false), (4, .v (.int .i64 v4)), (5, .v (.int .i64 v5))] [some (Root.mk (33) false h0), some (Root.mk (3) false h1)]
def s22_j0 (f : Func) (h0 : List Int) : St Ty := St.mk [(3, .ref (0) [] none false)] [some (Root.mk (3) false h0)]
def s22_l4 (f : Func) (v4 : Int) (v5 : Int) (v6 : List Int) (v7 : Int) (h0 : List Func) (h1 : List Int) : St Ty := St.mk [(1, .ptr (0) [] (0) (0)), (3, .ref (1) [] none false), (4, .v (.int .i64 v4)), (5, .v (.int .i64 v5)), (6, .sl false (3) v6), (7, .v (.int .i64 v7))] [some (Root.mk (33) false h0), some (Root.mk (3) false h1)]
def s22_j2 (f : Func) (v4 : Int) (h0 : List Func) (h1 : List Int) : St Ty := St.mk [(1, .ptr (0) [] (0) (0)), (3, .ref (1) [] none false), (4, .v (.int .i64 v4))] [some (Root.mk (33) false h0), some (Root.mk (3) false h1)]
def s22_j4 (f : Func) (v4 : Int) (v5 : Int) (h0 : List Func) (h1 : List Int) : St Ty := St.mk [(1, .ptr (0) [] (0) (0)), (3, .ref (1) [] none false), (4, .v (.int .i64 v4)), (5, .v (.int .i64 v5))] [some (Root.mk (33) false h0), some (Root.mk (3) false h1)]
def s22_j1 (f : Func) (v4 : Int) (h0 : List Func) (h1 : List Int) : St Ty := St.mk [(1, .ptr (0) [] (0) (0)), (3, .ref (1) [] none false), (4, .v (.int .i64 v4))] [some (Root.mk (33) false h0), some (Root.mk (3) false h1)]
def s22_j3 (f : Func) (v4 : Int) (v5 : Int) (h0 : List Func) (h1 : List Int) : St Ty := St.mk [(1, .ptr (0) [] (0) (0)), (3, .ref (1) [] none false), (4, .v (.int .i64 v4)), (5, .v (.int .i64 v5))] [some (Root.mk (33) false h0), some (Root.mk (3) false h1)]
theorem e22 (J f) : run tb C22 U22 J (R22 f) 4096 [.code b22] ⟨slotsA (a22 f) 0 0, heapA (a22 f)⟩ =
 if okF (Func.mk f.name f.out f.params f.result f.blocks) then
 if 0 ≤ IntKind.i64.wrap ((↑(typesOf (Func.mk f.name f.out f.params f.result f.blocks)).length : Int) - 1 + 1) ∧ IntKind.i64.wrap ((↑(typesOf (Func.mk f.name f.out f.params f.result f.blocks)).length : Int) - 1 + 1) ≤ IntKind.i64.wrap ((↑(typesOf (Func.mk f.name f.out f.params f.result f.blocks)).length : Int) - 1 + 1) ∧ IntKind.i64.wrap ((↑(typesOf (Func.mk f.name f.out f.params f.result f.blocks)).length : Int) - 1 + 1) ≤ 1099511627776 ∧ IntKind.i64.wrap ((↑(typesOf (Func.mk f.name f.out f.params f.result f.blocks)).length : Int) - 1 + 1) * (↑8 : Int) ≤ 1099511627776 then
 J k22_l0 (s22_l0 f 0 ([Func.mk f.name f.out f.params f.result f.blocks]) (List.replicate (IntKind.i64.wrap ((↑(typesOf (Func.mk f.name f.out f.params f.result f.blocks)).length : Int) - 1 + 1)).toNat 0))
 else none
 else none := by kernel_rfl
theorem e22_l0 (J f v4 h0 h1) : run tb C22 U22 J (R22 f) 4096 k22_l0 (s22_l0 f v4 h0 h1) =
 if decide (v4 < (↑(h0.getD (0) (Func.mk ByteArray.empty false [] 0 [])).blocks.length : Int)) = true then
 J k22_l2 (s22_l2 f v4 0 h0 h1)
 else
 J k22_j0 (s22_j0 f h1) := by kernel_rfl
theorem e22_l2 (J f v4 v5 h0 h1) : run tb C22 U22 J (R22 f) 4096 k22_l2 (s22_l2 f v4 v5 h0 h1) =
 if 0 ≤ v4 then
 if v4 < (↑(h0.getD (0) (Func.mk ByteArray.empty false [] 0 [])).blocks.length : Int) then
 if decide (v5 < (↑((h0.getD (0) (Func.mk ByteArray.empty false [] 0 [])).blocks.getD v4.toNat (Block.mk [])).ins.length : Int)) = true then
 if 0 ≤ v4 then
 if v4 < (↑(h0.getD (0) (Func.mk ByteArray.empty false [] 0 [])).blocks.length : Int) then
 if 0 ≤ v5 then
 if v5 < (↑((h0.getD (0) (Func.mk ByteArray.empty false [] 0 [])).blocks.getD v4.toNat (Block.mk [])).ins.length : Int) then
 J k22_l4 (s22_l4 f v4 v5 ((rdI (h0.getD (0) (Func.mk ByteArray.empty false [] 0 [])).blocks v4.toNat v5.toNat).args) 0 h0 h1)
 else none
 else none
 else none
 else none
 else
 J k22_j2 (s22_j2 f v4 h0 h1)
 else none
 else none := by kernel_rfl
theorem e22_j0 (J f h0) : run tb C22 U22 J (R22 f) 4096 k22_j0 (s22_j0 f h0) =
 some (.sl false (3) h0, [.dead]) := by kernel_rfl
theorem e22_l4 (J f v4 v5 v6 v7 h0 h1) : run tb C22 U22 J (R22 f) 4096 k22_l4 (s22_l4 f v4 v5 v6 v7 h0 h1) =
 if decide (v7 < (↑v6.length : Int)) = true then
 if 0 ≤ v7 then
 if v7 < (↑v6.length : Int) then
 if decide (v6.getD v7.toNat 0 ≥ 0) = true then
 if 0 ≤ v7 then
 if v7 < (↑v6.length : Int) then
 if decide (v6.getD v7.toNat 0 < (↑h1.length : Int)) = true then
 if 0 ≤ v7 then
 if v7 < (↑v6.length : Int) then
 if 0 ≤ v6.getD v7.toNat 0 then
 if v6.getD v7.toNat 0 < (↑h1.length : Int) then
 if 0 ≤ v6.getD v7.toNat 0 then
 if v6.getD v7.toNat 0 < (↑h1.length : Int) then
 J k22_l4 (s22_l4 f v4 v5 v6 (IntKind.i64.wrap (v7 + 1)) h0 (h1.set (0 + Int.toNat (v6.getD v7.toNat 0)) (IntKind.i64.wrap (h1.getD (0 + Int.toNat (v6.getD v7.toNat 0)) 0 + 1))))
 else none
 else none
 else none
 else none
 else none
 else none
 else
 J k22_l4 (s22_l4 f v4 v5 v6 (IntKind.i64.wrap (v7 + 1)) h0 h1)
 else none
 else none
 else
 J k22_l4 (s22_l4 f v4 v5 v6 (IntKind.i64.wrap (v7 + 1)) h0 h1)
 else none
 else none
 else
 J k22_j4 (s22_j4 f v4 v5 h0 h1) := by kernel_rfl
theorem e22_j2 (J f v4 h0 h1) : run tb C22 U22 J (R22 f) 4096 k22_j2 (s22_j2 f v4 h0 h1) =
 J k22_j1 (s22_j1 f v4 h0 h1) := by kernel_rfl
theorem e22_j4 (J f v4 v5 h0 h1) : run tb C22 U22 J (R22 f) 4096 k22_j4 (s22_j4 f v4 v5 h0 h1) =
 J k22_j3 (s22_j3 f v4 v5 h0 h1) := by kernel_rfl
theorem e22_j1 (J f v4 h0 h1) : run tb C22 U22 J (R22 f) 4096 k22_j1 (s22_j1 f v4 h0 h1) =
 J k22_l0 (s22_l0 f (IntKind.i64.wrap (v4 + 1)) h0 h1) := by kernel_rfl
theorem e22_j3 (J f v4 v5 h0 h1) : run tb C22 U22 J (R22 f) 4096 k22_j3 (s22_j3 f v4 v5 h0 h1) =
 J k22_l2 (s22_l2 f v4 (IntKind.i64.wrap (v5 + 1)) h0 h1) := by kernel_rfl

theorem in22 : Entered 22 := ⟨Try.f22, b22, by kernel_rfl, by kernel_rfl, by kernel_rfl⟩
theorem fn22 (f : Ev.Func) {res : AV Ty} {outs : List (AV Ty)} (h : Ends C22 U22 (R22 f) [.code b22] ⟨slotsA (a22 f) 0 0, heapA (a22 f)⟩ (some (res, outs))) : CallOk tb Try.prog 22 (a22 f) res outs := by
  obtain ⟨n0, hn⟩ := h
  exact fn_ok (C := C22) (U := U22) (n := 0 + n0) (q := (.own 3)) tbOk good (fun f mu S h => by
    unfold C22 at h
    simp only at h
    split at h
    · cases h; exact ⟨in21, S21_ok⟩
    · cases h) mixed (fn := Try.f22) (body := b22) (by kernel_rfl) (by kernel_rfl) rfl rfl (by show 1 ≤ 70; omega) (hn 0)
section
variable {f : Ev.Func}
abbrev ua (f : Ev.Func) (i k j : Nat) (out : List Int) : St Ty := s53_l4 f f.blocks f.blocks.length i (f.blocks.getD i (Block.mk [])).ins (f.blocks.getD i (Block.mk [])).ins.length k ((f.blocks.getD i (Block.mk [])).ins.getD k (Ins.mk 0 0 0 0 0 [] [])).args ((f.blocks.getD i (Block.mk [])).ins.getD k (Ins.mk 0 0 0 0 0 [] [])).args.length j out
abbrev ub (f : Ev.Func) (i k : Nat) (out : List Int) : St Ty := s53_l2 f f.blocks f.blocks.length i (f.blocks.getD i (Block.mk [])).ins (f.blocks.getD i (Block.mk [])).ins.length k out
abbrev uc (f : Ev.Func) (i : Nat) (out : List Int) : St Ty := s53_l0 f f.blocks f.blocks.length i out
abbrev va (f : Ev.Func) (i k j : Nat) (out : List Int) : St Ty := s22_l4 f i k ((f.blocks.getD i (Block.mk [])).ins.getD k (Ins.mk 0 0 0 0 0 [] [])).args j [f] out
abbrev vb (f : Ev.Func) (i k : Nat) (out : List Int) : St Ty := s22_l2 f i k [f] out
abbrev vc (f : Ev.Func) (i : Nat) (out : List Int) : St Ty := s22_l0 f i [f] out
theorem Uses.arg {i k j : Nat} (out : List Int) (hl : ((f.blocks.getD i (Block.mk [])).ins.getD k (Ins.mk 0 0 0 0 0 [] [])).args.length ≤ 1000) (hj : j < ((f.blocks.getD i (Block.mk [])).ins.getD k (Ins.mk 0 0 0 0 0 [] [])).args.length) :
    Goes C53 U53 (R53 f) k53_l4 (ua f i k j out) k53_l4 (ua f i k (j + 1) (useV out (((f.blocks.getD i (Block.mk [])).ins.getD k (Ins.mk 0 0 0 0 0 [] [])).args.getD j 0))) ∧ Goes C22 U22 (R22 f) k22_l4 (va f i k j out) k22_l4 (va f i k (j + 1) (useV out (((f.blocks.getD i (Block.mk [])).ins.getD k (Ins.mk 0 0 0 0 0 [] [])).args.getD j 0))) := by
  refine ⟨.step fun J => ?_, .step fun J => ?_⟩
  · unfold ua
    rw [e53_l4, Int.toNat_natCast]
    simp only [Nat.zero_add]
    generalize (f.blocks.getD i (Block.mk [])).ins.getD k (Ins.mk 0 0 0 0 0 [] []) = x at hl hj ⊢
    unfold useV
    by_cases h1 : 0 ≤ x.args.getD j 0
    · by_cases h2 : x.args.getD j 0 < out.length
      · rw [if_pos (show 0 ≤ x.args.getD j 0 ∧ x.args.getD j 0 < out.length from ⟨h1, h2⟩)]
        simp (disch := first | omega | assumption | (rw [decide_eq_true_eq]; omega) | (rw [decide_eq_false_iff_not]; omega)) only [↓if_pos, ↓if_neg, if_true, if_false, wrap_up, Int.toNat_natCast, Nat.zero_add]
        rfl
      · rw [if_neg (show ¬ (0 ≤ x.args.getD j 0 ∧ x.args.getD j 0 < out.length) from fun h => h2 h.2)]
        simp (disch := first | omega | assumption | (rw [decide_eq_true_eq]; omega) | (rw [decide_eq_false_iff_not]; omega)) only [↓if_pos, ↓if_neg, if_true, if_false, wrap_up, Int.toNat_natCast, Nat.zero_add]
        rfl
    · rw [if_neg (show ¬ (0 ≤ x.args.getD j 0 ∧ x.args.getD j 0 < out.length) from fun h => h1 h.1)]
      simp (disch := first | omega | assumption | (rw [decide_eq_true_eq]; omega) | (rw [decide_eq_false_iff_not]; omega)) only [↓if_pos, ↓if_neg, if_true, if_false, wrap_up, Int.toNat_natCast, Nat.zero_add]
      rfl
  · unfold va
    rw [e22_l4, Int.toNat_natCast]
    simp only [Nat.zero_add]
    generalize (f.blocks.getD i (Block.mk [])).ins.getD k (Ins.mk 0 0 0 0 0 [] []) = x at hl hj ⊢
    unfold useV
    by_cases h1 : 0 ≤ x.args.getD j 0
    · by_cases h2 : x.args.getD j 0 < out.length
      · rw [if_pos (show 0 ≤ x.args.getD j 0 ∧ x.args.getD j 0 < out.length from ⟨h1, h2⟩)]
        simp (disch := first | omega | assumption | (rw [decide_eq_true_eq]; omega) | (rw [decide_eq_false_iff_not]; omega)) only [↓if_pos, ↓if_neg, if_true, if_false, wrap_up, Int.toNat_natCast, Nat.zero_add]
        rfl
      · rw [if_neg (show ¬ (0 ≤ x.args.getD j 0 ∧ x.args.getD j 0 < out.length) from fun h => h2 h.2)]
        simp (disch := first | omega | assumption | (rw [decide_eq_true_eq]; omega) | (rw [decide_eq_false_iff_not]; omega)) only [↓if_pos, ↓if_neg, if_true, if_false, wrap_up, Int.toNat_natCast, Nat.zero_add]
        rfl
    · rw [if_neg (show ¬ (0 ≤ x.args.getD j 0 ∧ x.args.getD j 0 < out.length) from fun h => h1 h.1)]
      simp (disch := first | omega | assumption | (rw [decide_eq_true_eq]; omega) | (rw [decide_eq_false_iff_not]; omega)) only [↓if_pos, ↓if_neg, if_true, if_false, wrap_up, Int.toNat_natCast, Nat.zero_add]
      rfl
theorem Uses.ins (h : okF f) {i k : Nat} (hi : i < f.blocks.length) (hk : k < (f.blocks.getD i (Block.mk [])).ins.length) (out : List Int) :
    Goes C53 U53 (R53 f) k53_l2 (ub f i k out) k53_l2 (ub f i (k + 1) (useI out ((f.blocks.getD i (Block.mk [])).ins.getD k (Ins.mk 0 0 0 0 0 [] [])))) ∧ Goes C22 U22 (R22 f) k22_l2 (vb f i k out) k22_l2 (vb f i (k + 1) (useI out ((f.blocks.getD i (Block.mk [])).ins.getD k (Ins.mk 0 0 0 0 0 [] [])))) := by
  have h0 := h.2.1
  have h1 := (h.blk hi).1
  have h2 : ((f.blocks.getD i (Block.mk [])).ins.getD k (Ins.mk 0 0 0 0 0 [] [])).args.length ≤ 1000 := ((h.blk hi).2 _ (getD_mem hk)).1
  have e : rdI f.blocks i k = (f.blocks.getD i (Block.mk [])).ins.getD k (Ins.mk 0 0 0 0 0 [] []) := rfl
  constructor
  · refine Goes.trans (k' := k53_l4) (s' := ua f i k 0 ((((f.blocks.getD i (Block.mk [])).ins.getD k (Ins.mk 0 0 0 0 0 [] [])).args.take 0).foldl useV out)) (.step fun J => ?_) (Goes.trans (Goes.upto (fun j => ua f i k j ((((f.blocks.getD i (Block.mk [])).ins.getD k (Ins.mk 0 0 0 0 0 [] [])).args.take j).foldl useV out)) ((f.blocks.getD i (Block.mk [])).ins.getD k (Ins.mk 0 0 0 0 0 [] [])).args.length (fun j hj => ?_) _ (Nat.le_refl _)) (Goes.trans (k' := k53_j4) (s' := s53_j4 f f.blocks f.blocks.length i (f.blocks.getD i (Block.mk [])).ins (f.blocks.getD i (Block.mk [])).ins.length k (useI out ((f.blocks.getD i (Block.mk [])).ins.getD k (Ins.mk 0 0 0 0 0 [] [])))) (.step fun J => ?_) (Goes.trans (.step fun J => e53_j4 ..) (.step fun J => ?_))))
    · unfold ub
      rw [e53_l2]
      simp only [Int.toNat_natCast]
      simp (disch := first | omega | assumption | (rw [decide_eq_true_eq]; omega) | (rw [decide_eq_false_iff_not]; omega)) only [↓if_pos, ↓if_neg, if_true, if_false, wrap_up, Int.toNat_natCast, Nat.zero_add]
      rfl
    · simp only [fold_step (d := (0 : Int)) hj]
      exact (Uses.arg _ h2 hj).1
    · unfold ua useI
      rw [e53_l4]
      simp (disch := first | omega | assumption | (rw [decide_eq_true_eq]; omega) | (rw [decide_eq_false_iff_not]; omega)) only [↓if_pos, ↓if_neg, if_true, if_false, wrap_up, Int.toNat_natCast, Nat.zero_add, List.take_length]
    · unfold ub
      rw [e53_j3, wrap_nat (n := k + 1) (by omega) (by omega)]
  · refine Goes.trans (k' := k22_l4) (s' := va f i k 0 ((((f.blocks.getD i (Block.mk [])).ins.getD k (Ins.mk 0 0 0 0 0 [] [])).args.take 0).foldl useV out)) (.step fun J => ?_) (Goes.trans (Goes.upto (fun j => va f i k j ((((f.blocks.getD i (Block.mk [])).ins.getD k (Ins.mk 0 0 0 0 0 [] [])).args.take j).foldl useV out)) ((f.blocks.getD i (Block.mk [])).ins.getD k (Ins.mk 0 0 0 0 0 [] [])).args.length (fun j hj => ?_) _ (Nat.le_refl _)) (Goes.trans (k' := k22_j4) (s' := s22_j4 f i k [f] (useI out ((f.blocks.getD i (Block.mk [])).ins.getD k (Ins.mk 0 0 0 0 0 [] [])))) (.step fun J => ?_) (Goes.trans (.step fun J => e22_j4 ..) (.step fun J => ?_))))
    · unfold vb
      rw [e22_l2]
      simp only [Int.toNat_natCast, List.getD_cons_zero, e]
      simp (disch := first | omega | assumption | (rw [decide_eq_true_eq]; omega) | (rw [decide_eq_false_iff_not]; omega)) only [↓if_pos, ↓if_neg, if_true, if_false, wrap_up, Int.toNat_natCast, Nat.zero_add]
      rfl
    · simp only [fold_step (d := (0 : Int)) hj]
      exact (Uses.arg _ h2 hj).2
    · unfold va useI
      rw [e22_l4]
      simp (disch := first | omega | assumption | (rw [decide_eq_true_eq]; omega) | (rw [decide_eq_false_iff_not]; omega)) only [↓if_pos, ↓if_neg, if_true, if_false, wrap_up, Int.toNat_natCast, Nat.zero_add, List.take_length]
    · unfold vb
      rw [e22_j3, wrap_nat (n := k + 1) (by omega) (by omega)]
theorem Uses.blk (h : okF f) {i : Nat} (hi : i < f.blocks.length) (out : List Int) :
    Goes C53 U53 (R53 f) k53_l0 (uc f i out) k53_l0 (uc f (i + 1) (useB out (f.blocks.getD i (Block.mk [])))) ∧ Goes C22 U22 (R22 f) k22_l0 (vc f i out) k22_l0 (vc f (i + 1) (useB out (f.blocks.getD i (Block.mk [])))) := by
  have h0 := h.2.1
  have h1 := (h.blk hi).1
  constructor
  · refine Goes.trans (k' := k53_l2) (s' := ub f i 0 (((f.blocks.getD i (Block.mk [])).ins.take 0).foldl useI out)) (.step fun J => ?_) (Goes.trans (Goes.upto (fun k => ub f i k (((f.blocks.getD i (Block.mk [])).ins.take k).foldl useI out)) (f.blocks.getD i (Block.mk [])).ins.length (fun k hk => ?_) _ (Nat.le_refl _)) (Goes.trans (k' := k53_j2) (s' := s53_j2 f f.blocks f.blocks.length i (useB out (f.blocks.getD i (Block.mk [])))) (.step fun J => ?_) (Goes.trans (.step fun J => e53_j2 ..) (.step fun J => ?_))))
    · unfold uc
      rw [e53_l0]
      simp only [Int.toNat_natCast]
      simp (disch := first | omega | assumption | (rw [decide_eq_true_eq]; omega) | (rw [decide_eq_false_iff_not]; omega)) only [↓if_pos, ↓if_neg, if_true, if_false, wrap_up, Int.toNat_natCast, Nat.zero_add]
      rfl
    · simp only [fold_step (d := (Ins.mk 0 0 0 0 0 [] [])) hk]
      exact (Uses.ins h hi hk _).1
    · unfold ub useB
      rw [e53_l2]
      simp (disch := first | omega | assumption | (rw [decide_eq_true_eq]; omega) | (rw [decide_eq_false_iff_not]; omega)) only [↓if_pos, ↓if_neg, if_true, if_false, wrap_up, Int.toNat_natCast, Nat.zero_add, List.take_length]
    · unfold uc
      rw [e53_j1, wrap_nat (n := i + 1) (by omega) (by omega)]
  · refine Goes.trans (k' := k22_l2) (s' := vb f i 0 (((f.blocks.getD i (Block.mk [])).ins.take 0).foldl useI out)) (.step fun J => ?_) (Goes.trans (Goes.upto (fun k => vb f i k (((f.blocks.getD i (Block.mk [])).ins.take k).foldl useI out)) (f.blocks.getD i (Block.mk [])).ins.length (fun k hk => ?_) _ (Nat.le_refl _)) (Goes.trans (k' := k22_j2) (s' := s22_j2 f i [f] (useB out (f.blocks.getD i (Block.mk [])))) (.step fun J => ?_) (Goes.trans (.step fun J => e22_j2 ..) (.step fun J => ?_))))
    · unfold vc
      rw [e22_l0]
      simp only [List.getD_cons_zero]
      simp (disch := first | omega | assumption | (rw [decide_eq_true_eq]; omega) | (rw [decide_eq_false_iff_not]; omega)) only [↓if_pos, ↓if_neg, if_true, if_false, wrap_up, Int.toNat_natCast, Nat.zero_add]
      rfl
    · simp only [fold_step (d := (Ins.mk 0 0 0 0 0 [] [])) hk]
      exact (Uses.ins h hi hk _).2
    · unfold vb useB
      rw [e22_l2]
      simp only [Int.toNat_natCast, List.getD_cons_zero]
      simp (disch := first | omega | assumption | (rw [decide_eq_true_eq]; omega) | (rw [decide_eq_false_iff_not]; omega)) only [↓if_pos, ↓if_neg, if_true, if_false, wrap_up, Int.toNat_natCast, Nat.zero_add, List.take_length]
    · unfold vc
      rw [e22_j1, wrap_nat (n := i + 1) (by omega) (by omega)]
end
theorem uses_ok (f : Ev.Func) (h : okF f) : CallOk tb Try.prog 53 (a53 f) (.sl false 3 (usesOf f)) [.dead] ∧ CallOk tb Try.prog 22 (a22 f) (.sl false 3 (usesOf f)) [.dead] := by
  have e : (⟨f.name, f.out, f.params, f.result, f.blocks⟩ : Ev.Func) = f := rfl
  have hb := h.2.1
  have ht := h.types
  have w : IntKind.i64.wrap (((typesOf f).length : Int) - 1 + 1) = ((typesOf f).length : Int) := wrap_nat (by omega) (by omega)
  constructor
  · refine fn53 f (Goes.ends (k' := k53_l0) (s' := uc f 0 ((f.blocks.take 0).foldl useB (List.replicate (typesOf f).length 0))) (.step fun J => ?_) (Goes.ends (Goes.upto (fun i => uc f i ((f.blocks.take i).foldl useB (List.replicate (typesOf f).length 0))) f.blocks.length (fun i hi => ?_) _ (Nat.le_refl _)) (Goes.ends (k' := k53_j0) (s' := s53_j0 f (usesOf f)) (.step fun J => ?_) (.step fun J => e53_j0 ..))))
    · rw [e53]
      simp only [e, w]
      simp (disch := first | omega | assumption | (rw [decide_eq_true_eq]; omega) | (rw [decide_eq_false_iff_not]; omega)) only [↓if_pos, ↓if_neg, if_true, if_false, wrap_up, Int.toNat_natCast, Nat.zero_add]
      rfl
    · simp only [fold_step (d := (Block.mk [])) hi]
      exact (Uses.blk h hi _).1
    · unfold uc usesOf
      rw [e53_l0]
      simp (disch := first | omega | assumption | (rw [decide_eq_true_eq]; omega) | (rw [decide_eq_false_iff_not]; omega)) only [↓if_pos, ↓if_neg, if_true, if_false, wrap_up, Int.toNat_natCast, Nat.zero_add, List.take_length]
  · refine fn22 f (Goes.ends (k' := k22_l0) (s' := vc f 0 ((f.blocks.take 0).foldl useB (List.replicate (typesOf f).length 0))) (.step fun J => ?_) (Goes.ends (Goes.upto (fun i => vc f i ((f.blocks.take i).foldl useB (List.replicate (typesOf f).length 0))) f.blocks.length (fun i hi => ?_) _ (Nat.le_refl _)) (Goes.ends (k' := k22_j0) (s' := s22_j0 f (usesOf f)) (.step fun J => ?_) (.step fun J => e22_j0 ..))))
    · rw [e22]
      simp only [e, w]
      simp (disch := first | omega | assumption | (rw [decide_eq_true_eq]; omega) | (rw [decide_eq_false_iff_not]; omega)) only [↓if_pos, ↓if_neg, if_true, if_false, wrap_up, Int.toNat_natCast, Nat.zero_add]
      rfl
    · simp only [fold_step (d := (Block.mk [])) hi]
      exact (Uses.blk h hi _).2
    · unfold vc usesOf
      rw [e22_l0]
      simp only [List.getD_cons_zero]
      simp (disch := first | omega | assumption | (rw [decide_eq_true_eq]; omega) | (rw [decide_eq_false_iff_not]; omega)) only [↓if_pos, ↓if_neg, if_true, if_false, wrap_up, Int.toNat_natCast, Nat.zero_add, List.take_length]
theorem uses53_ok (f : Ev.Func) (h : okF f) : CallOk tb Try.prog 53 (a53 f) (.sl false 3 (usesOf f)) [.dead] := (uses_ok f h).1
theorem uses22_ok (f : Ev.Func) (h : okF f) : CallOk tb Try.prog 22 (a22 f) (.sl false 3 (usesOf f)) [.dead] := (uses_ok f h).2
def S53 : List (AV Ty) → T (AV Ty × List (AV Ty))
  | [.agg x] => match cod33.dec false x with
    | some f => .ite (okF f) (okF.dec f) (.ret (.sl false 3 (usesOf f), [.dead])) .fail
    | none => .fail
  | _ => .fail
theorem S53_ok (l : List (AV Ty)) (r : AV Ty) (outs : List (AV Ty)) (h : (S53 l).val = some (r, outs)) : CallOk tb Try.prog 53 l r outs := by
  unfold S53 at h
  split at h
  · rename_i x
    split at h
    · rename_i f e1
      rcases ite_val h with ⟨e, h⟩ | ⟨_, h⟩
      · cases h
        have h1 := cod33_ok.dec false x f e1
        subst h1
        exact uses53_ok f e
      · cases h
    · cases h
  · cases h
def S22 : List (AV Ty) → T (AV Ty × List (AV Ty))
  | [.agg x] => match cod33.dec false x with
    | some f => .ite (okF f) (okF.dec f) (.ret (.sl false 3 (usesOf f), [.dead])) .fail
    | none => .fail
  | _ => .fail
theorem S22_ok (l : List (AV Ty)) (r : AV Ty) (outs : List (AV Ty)) (h : (S22 l).val = some (r, outs)) : CallOk tb Try.prog 22 l r outs := by
  unfold S22 at h
  split at h
  · rename_i x
    split at h
    · rename_i f e1
      rcases ite_val h with ⟨e, h⟩ | ⟨_, h⟩
      · cases h
        have h1 := cod33_ok.dec false x f e1
        subst h1
        exact uses22_ok f e
      · cases h
    · cases h
  · cases h
def S49 : List (AV Ty) → T (AV Ty × List (AV Ty))
  | [.agg x] => match cod27.dec false x with
    | some m => .ite (okM m) (okM.dec m) (.ret (.v (.int .i64 (szF m.funcs)), [.dead])) .fail
    | none => .fail
  | _ => .fail
theorem S49_ok (l : List (AV Ty)) (r : AV Ty) (outs : List (AV Ty)) (h : (S49 l).val = some (r, outs)) : CallOk tb Try.prog 49 l r outs := by
  unfold S49 at h
  split at h
  · rename_i x
    split at h
    · rename_i m e1
      rcases ite_val h with ⟨e, h⟩ | ⟨_, h⟩
      · cases h
        have h1 := cod27_ok.dec false x m e1
        subst h1
        exact whole_ok m e
      · cases h
    · cases h
  · cases h
def S50 : List (AV Ty) → T (AV Ty × List (AV Ty))
  | [.agg x] => match cod27.dec false x with
    | some m => .ite (okM m) (okM.dec m) (.ret (.v (.int .i64 (szF m.funcs)), [.dead])) .fail
    | none => .fail
  | _ => .fail
theorem S50_ok (l : List (AV Ty)) (r : AV Ty) (outs : List (AV Ty)) (h : (S50 l).val = some (r, outs)) : CallOk tb Try.prog 50 l r outs := by
  unfold S50 at h
  split at h
  · rename_i x
    split at h
    · rename_i m e1
      rcases ite_val h with ⟨e, h⟩ | ⟨_, h⟩
      · cases h
        have h1 := cod27_ok.dec false x m e1
        subst h1
        exact rwhole_ok m e
      · cases h
    · cases h
  · cases h
end Go.Proofs.Ytggibjbcbicpjaa.Ev
