/- plnkeep.Spoil, which owns what it is handed: it ends. -/
import Derived.Test.YtggibjbcbicpjaaIrP
namespace Go.Proofs.Ytggibjbcbicpjaa.Ev
open Go
set_option linter.unusedVariables false
set_option linter.unusedSimpArgs false
def skI (i : Ev.Ins) : Nat × Nat := (i.args.length, i.into.length)
def skB (b : Ev.Block) : List (Nat × Nat) := b.ins.map skI
def skF (f : Ev.Func) : Nat × List (List (Nat × Nat)) := (f.params.length, f.blocks.map skB)
theorem map_set_same {α β : Type} {f : α → β} {l : List α} {i : Nat} {x d : α} (h : f x = f (l.getD i d)) : (l.set i x).map f = l.map f := by
  rw [List.map_set]
  by_cases hi : i < l.length
  · rw [List.getD_eq_getElem?_getD, List.getElem?_eq_getElem hi] at h
    refine List.ext_getElem (by simp) fun j h1 h2 => ?_
    rw [List.getElem_set]
    split
    · rename_i e; subst e; rw [h]; simp
    · rfl
  · rw [List.set_eq_of_length_le (by simp; omega)]
theorem map_getD {α β : Type} (f : α → β) (l : List α) (k : Nat) (d : α) : (l.map f).getD k (f d) = f (l.getD k d) := by
  rw [List.getD_eq_getElem?_getD, List.getD_eq_getElem?_getD, List.getElem?_map]
  cases l[k]? <;> rfl
theorem map_at {α β : Type} {f : α → β} {l l' : List α} (h : l.map f = l'.map f) (k : Nat) (d : α) : f (l.getD k d) = f (l'.getD k d) := by rw [← map_getD f l, ← map_getD f l', h]
theorem map_len {α β : Type} {f : α → β} {l l' : List α} (h : l.map f = l'.map f) : l.length = l'.length := by
  have := congrArg List.length h
  simpa using this
theorem wrI_sk {l : List Ev.Block} {b k : Nat} {x : Ev.Ins} (h : skI x = skI (rdI l b k)) : (wrI l b k x).map skB = l.map skB := map_set_same (d := (Block.mk [])) (map_set_same (d := (Ins.mk 0 0 0 0 0 [] [])) h)
structure ShF (G0 G : List Ev.Func) (k : Nat) : Prop where
  len : G.length = G0.length
  par : (G.getD k (Func.mk ByteArray.empty false [] 0 [])).params.length = (G0.getD k (Func.mk ByteArray.empty false [] 0 [])).params.length
  blk : (G.getD k (Func.mk ByteArray.empty false [] 0 [])).blocks.length = (G0.getD k (Func.mk ByteArray.empty false [] 0 [])).blocks.length
  ins : ∀ b, ((G.getD k (Func.mk ByteArray.empty false [] 0 [])).blocks.getD b (Block.mk [])).ins.length = ((G0.getD k (Func.mk ByteArray.empty false [] 0 [])).blocks.getD b (Block.mk [])).ins.length
  arg : ∀ b i, (rdI (G.getD k (Func.mk ByteArray.empty false [] 0 [])).blocks b i).args.length = (rdI (G0.getD k (Func.mk ByteArray.empty false [] 0 [])).blocks b i).args.length
  int : ∀ b i, (rdI (G.getD k (Func.mk ByteArray.empty false [] 0 [])).blocks b i).into.length = (rdI (G0.getD k (Func.mk ByteArray.empty false [] 0 [])).blocks b i).into.length
theorem shF {G0 G : List Ev.Func} (h : G.map skF = G0.map skF) (k : Nat) : ShF G0 G k := by
  have h1 := map_at h k (Func.mk ByteArray.empty false [] 0 [])
  have h2 : (G.getD k (Func.mk ByteArray.empty false [] 0 [])).blocks.map skB = (G0.getD k (Func.mk ByteArray.empty false [] 0 [])).blocks.map skB := congrArg Prod.snd h1
  have h3 : ∀ b, ((G.getD k (Func.mk ByteArray.empty false [] 0 [])).blocks.getD b (Block.mk [])).ins.map skI = ((G0.getD k (Func.mk ByteArray.empty false [] 0 [])).blocks.getD b (Block.mk [])).ins.map skI := fun b => map_at h2 b (Block.mk [])
  exact ⟨map_len h, congrArg Prod.fst h1, map_len h2, fun b => map_len (h3 b), fun b i => congrArg Prod.fst (map_at (h3 b) i (Ins.mk 0 0 0 0 0 [] [])), fun b i => congrArg Prod.snd (map_at (h3 b) i (Ins.mk 0 0 0 0 0 [] []))⟩
theorem rdI_le {f : Ev.Func} (h : okF f) {b i : Nat} (hb : b < f.blocks.length) (hi : i < (f.blocks.getD b (Block.mk [])).ins.length) : okIns (rdI f.blocks b i) := (h.blk hb).2 _ (getD_mem (d := (Ins.mk 0 0 0 0 0 [] [])) hi)
noncomputable def b36 : Code := bodyOf Try.f36
noncomputable def C36 : Cfg Ty := ⟨fun _ => none, fun
  | 1 => true
  | _ => false, 184, 0⟩
def U36 : Cuts := ⟨fun
  | 0 => some [(1, none)]
  | 1 => some [(1, none), (2, none)]
  | 2 => some [(1, none), (2, none)]
  | 3 => some [(1, none), (2, none), (3, none)]
  | 4 => some [(1, none), (2, none), (3, none)]
  | 5 => some [(1, none), (2, none), (3, none), (4, none), (5, none)]
  | 6 => some [(1, none), (2, none), (3, none), (4, none), (5, none)]
  | 8 => some [(1, none), (2, none), (3, none), (4, none), (5, none)]
  | 10 => some [(1, none), (2, none)]
  | 12 => some [(1, none)]
  | 13 => some [(1, none), (9, none)]
  | 14 => some [(1, none), (9, none)]
  | 16 => some [(1, none)]
  | 17 => some [(1, none), (11, none)]
  | 18 => some [(1, none), (11, none)]
  | 20 => some []
  | 21 => some [(1, none), (13, none)]
  | 22 => some [(1, none), (13, none)]
  | _ => none, fun
  | 0 => some [(1, none), (2, none)]
  | 2 => some [(1, none), (2, none), (3, none)]
  | 4 => some [(1, none), (2, none), (3, none), (4, none), (5, none)]
  | 6 => some [(1, none), (2, none), (3, none), (4, none), (5, none), (6, none)]
  | 8 => some [(1, none), (2, none), (3, none), (4, none), (5, none), (7, none)]
  | 10 => some [(1, none), (2, none), (8, none)]
  | 12 => some [(1, none), (9, none)]
  | 14 => some [(1, none), (9, none), (10, none)]
  | 16 => some [(1, none), (11, none)]
  | 18 => some [(1, none), (11, none), (12, none)]
  | 20 => some [(1, none), (13, none)]
  | 22 => some [(1, none), (13, none), (14, none)]
  | _ => none, fun _ => none⟩
/-- join 0: live: 1 -/
noncomputable def k36_j0 : List Item := [.code (sndC (sndC b36))]
/-- loop 0: live: 1, 2 -/
noncomputable def k36_l0 : List Item := [.code (inC (inC (sndC (fstC (sndC b36))))), .inLoop (inC (inC (sndC (fstC (sndC b36))))), .inBlock 0, .code (sndC (sndC b36))]
/-- join 1: live: 1, 2 -/
noncomputable def k36_j1 : List Item := [.code (sndC (sndC (inC (inC (sndC (fstC (sndC b36))))))), .inLoop (inC (inC (sndC (fstC (sndC b36))))), .inBlock 0, .code (sndC (sndC b36))]
/-- join 2: live: 1, 2 -/
noncomputable def k36_j2 : List Item := [.code (sndC (inC (fstC (sndC (inC (inC (sndC (fstC (sndC b36))))))))), .inBlock 1, .code (sndC (sndC (inC (inC (sndC (fstC (sndC b36))))))), .inLoop (inC (inC (sndC (fstC (sndC b36))))), .inBlock 0, .code (sndC (sndC b36))]
/-- loop 2: live: 1, 2, 3 -/
noncomputable def k36_l2 : List Item := [.code (inC (inC (sndC (fstC (inC (fstC (sndC (inC (inC (sndC (fstC (sndC b36)))))))))))), .inLoop (inC (inC (sndC (fstC (inC (fstC (sndC (inC (inC (sndC (fstC (sndC b36)))))))))))), .inBlock 2, .code (sndC (inC (fstC (sndC (inC (inC (sndC (fstC (sndC b36))))))))), .inBlock 1, .code (sndC (sndC (inC (inC (sndC (fstC (sndC b36))))))), .inLoop (inC (inC (sndC (fstC (sndC b36))))), .inBlock 0, .code (sndC (sndC b36))]
/-- join 3: live: 1, 2, 3 -/
noncomputable def k36_j3 : List Item := [.code (sndC (sndC (inC (inC (sndC (fstC (inC (fstC (sndC (inC (inC (sndC (fstC (sndC b36)))))))))))))), .inLoop (inC (inC (sndC (fstC (inC (fstC (sndC (inC (inC (sndC (fstC (sndC b36)))))))))))), .inBlock 2, .code (sndC (inC (fstC (sndC (inC (inC (sndC (fstC (sndC b36))))))))), .inBlock 1, .code (sndC (sndC (inC (inC (sndC (fstC (sndC b36))))))), .inLoop (inC (inC (sndC (fstC (sndC b36))))), .inBlock 0, .code (sndC (sndC b36))]
/-- join 4: live: 1, 2, 3 -/
noncomputable def k36_j4 : List Item := [.inBlock 3, .code (sndC (sndC (inC (inC (sndC (fstC (inC (fstC (sndC (inC (inC (sndC (fstC (sndC b36)))))))))))))), .inLoop (inC (inC (sndC (fstC (inC (fstC (sndC (inC (inC (sndC (fstC (sndC b36)))))))))))), .inBlock 2, .code (sndC (inC (fstC (sndC (inC (inC (sndC (fstC (sndC b36))))))))), .inBlock 1, .code (sndC (sndC (inC (inC (sndC (fstC (sndC b36))))))), .inLoop (inC (inC (sndC (fstC (sndC b36))))), .inBlock 0, .code (sndC (sndC b36))]
/-- loop 4: live: 1, 2, 3, 4, 5 -/
noncomputable def k36_l4 : List Item := [.code (inC (inC (sndC (sndC (inC (fstC (sndC (inC (inC (sndC (fstC (inC (fstC (sndC (inC (inC (sndC (fstC (sndC b36))))))))))))))))))), .inLoop (inC (inC (sndC (sndC (inC (fstC (sndC (inC (inC (sndC (fstC (inC (fstC (sndC (inC (inC (sndC (fstC (sndC b36))))))))))))))))))), .inBlock 4, .inBlock 3, .code (sndC (sndC (inC (inC (sndC (fstC (inC (fstC (sndC (inC (inC (sndC (fstC (sndC b36)))))))))))))), .inLoop (inC (inC (sndC (fstC (inC (fstC (sndC (inC (inC (sndC (fstC (sndC b36)))))))))))), .inBlock 2, .code (sndC (inC (fstC (sndC (inC (inC (sndC (fstC (sndC b36))))))))), .inBlock 1, .code (sndC (sndC (inC (inC (sndC (fstC (sndC b36))))))), .inLoop (inC (inC (sndC (fstC (sndC b36))))), .inBlock 0, .code (sndC (sndC b36))]
/-- join 5: live: 1, 2, 3, 4, 5 -/
noncomputable def k36_j5 : List Item := [.code (sndC (sndC (inC (inC (sndC (sndC (inC (fstC (sndC (inC (inC (sndC (fstC (inC (fstC (sndC (inC (inC (sndC (fstC (sndC b36))))))))))))))))))))), .inLoop (inC (inC (sndC (sndC (inC (fstC (sndC (inC (inC (sndC (fstC (inC (fstC (sndC (inC (inC (sndC (fstC (sndC b36))))))))))))))))))), .inBlock 4, .inBlock 3, .code (sndC (sndC (inC (inC (sndC (fstC (inC (fstC (sndC (inC (inC (sndC (fstC (sndC b36)))))))))))))), .inLoop (inC (inC (sndC (fstC (inC (fstC (sndC (inC (inC (sndC (fstC (sndC b36)))))))))))), .inBlock 2, .code (sndC (inC (fstC (sndC (inC (inC (sndC (fstC (sndC b36))))))))), .inBlock 1, .code (sndC (sndC (inC (inC (sndC (fstC (sndC b36))))))), .inLoop (inC (inC (sndC (fstC (sndC b36))))), .inBlock 0, .code (sndC (sndC b36))]
/-- join 6: live: 1, 2, 3, 4, 5 -/
noncomputable def k36_j6 : List Item := [.code (sndC (inC (fstC (sndC (inC (inC (sndC (sndC (inC (fstC (sndC (inC (inC (sndC (fstC (inC (fstC (sndC (inC (inC (sndC (fstC (sndC b36))))))))))))))))))))))), .inBlock 5, .code (sndC (sndC (inC (inC (sndC (sndC (inC (fstC (sndC (inC (inC (sndC (fstC (inC (fstC (sndC (inC (inC (sndC (fstC (sndC b36))))))))))))))))))))), .inLoop (inC (inC (sndC (sndC (inC (fstC (sndC (inC (inC (sndC (fstC (inC (fstC (sndC (inC (inC (sndC (fstC (sndC b36))))))))))))))))))), .inBlock 4, .inBlock 3, .code (sndC (sndC (inC (inC (sndC (fstC (inC (fstC (sndC (inC (inC (sndC (fstC (sndC b36)))))))))))))), .inLoop (inC (inC (sndC (fstC (inC (fstC (sndC (inC (inC (sndC (fstC (sndC b36)))))))))))), .inBlock 2, .code (sndC (inC (fstC (sndC (inC (inC (sndC (fstC (sndC b36))))))))), .inBlock 1, .code (sndC (sndC (inC (inC (sndC (fstC (sndC b36))))))), .inLoop (inC (inC (sndC (fstC (sndC b36))))), .inBlock 0, .code (sndC (sndC b36))]
/-- loop 6: live: 1, 2, 3, 4, 5, 6 -/
noncomputable def k36_l6 : List Item := [.code (inC (inC (sndC (fstC (inC (fstC (sndC (inC (inC (sndC (sndC (inC (fstC (sndC (inC (inC (sndC (fstC (inC (fstC (sndC (inC (inC (sndC (fstC (sndC b36)))))))))))))))))))))))))), .inLoop (inC (inC (sndC (fstC (inC (fstC (sndC (inC (inC (sndC (sndC (inC (fstC (sndC (inC (inC (sndC (fstC (inC (fstC (sndC (inC (inC (sndC (fstC (sndC b36)))))))))))))))))))))))))), .inBlock 6, .code (sndC (inC (fstC (sndC (inC (inC (sndC (sndC (inC (fstC (sndC (inC (inC (sndC (fstC (inC (fstC (sndC (inC (inC (sndC (fstC (sndC b36))))))))))))))))))))))), .inBlock 5, .code (sndC (sndC (inC (inC (sndC (sndC (inC (fstC (sndC (inC (inC (sndC (fstC (inC (fstC (sndC (inC (inC (sndC (fstC (sndC b36))))))))))))))))))))), .inLoop (inC (inC (sndC (sndC (inC (fstC (sndC (inC (inC (sndC (fstC (inC (fstC (sndC (inC (inC (sndC (fstC (sndC b36))))))))))))))))))), .inBlock 4, .inBlock 3, .code (sndC (sndC (inC (inC (sndC (fstC (inC (fstC (sndC (inC (inC (sndC (fstC (sndC b36)))))))))))))), .inLoop (inC (inC (sndC (fstC (inC (fstC (sndC (inC (inC (sndC (fstC (sndC b36)))))))))))), .inBlock 2, .code (sndC (inC (fstC (sndC (inC (inC (sndC (fstC (sndC b36))))))))), .inBlock 1, .code (sndC (sndC (inC (inC (sndC (fstC (sndC b36))))))), .inLoop (inC (inC (sndC (fstC (sndC b36))))), .inBlock 0, .code (sndC (sndC b36))]
/-- join 8: live: 1, 2, 3, 4, 5 -/
noncomputable def k36_j8 : List Item := [.code (sndC (sndC (inC (fstC (sndC (inC (inC (sndC (sndC (inC (fstC (sndC (inC (inC (sndC (fstC (inC (fstC (sndC (inC (inC (sndC (fstC (sndC b36)))))))))))))))))))))))), .inBlock 5, .code (sndC (sndC (inC (inC (sndC (sndC (inC (fstC (sndC (inC (inC (sndC (fstC (inC (fstC (sndC (inC (inC (sndC (fstC (sndC b36))))))))))))))))))))), .inLoop (inC (inC (sndC (sndC (inC (fstC (sndC (inC (inC (sndC (fstC (inC (fstC (sndC (inC (inC (sndC (fstC (sndC b36))))))))))))))))))), .inBlock 4, .inBlock 3, .code (sndC (sndC (inC (inC (sndC (fstC (inC (fstC (sndC (inC (inC (sndC (fstC (sndC b36)))))))))))))), .inLoop (inC (inC (sndC (fstC (inC (fstC (sndC (inC (inC (sndC (fstC (sndC b36)))))))))))), .inBlock 2, .code (sndC (inC (fstC (sndC (inC (inC (sndC (fstC (sndC b36))))))))), .inBlock 1, .code (sndC (sndC (inC (inC (sndC (fstC (sndC b36))))))), .inLoop (inC (inC (sndC (fstC (sndC b36))))), .inBlock 0, .code (sndC (sndC b36))]
/-- loop 8: live: 1, 2, 3, 4, 5, 7 -/
noncomputable def k36_l8 : List Item := [.code (inC (inC (sndC (fstC (sndC (inC (fstC (sndC (inC (inC (sndC (sndC (inC (fstC (sndC (inC (inC (sndC (fstC (inC (fstC (sndC (inC (inC (sndC (fstC (sndC b36))))))))))))))))))))))))))), .inLoop (inC (inC (sndC (fstC (sndC (inC (fstC (sndC (inC (inC (sndC (sndC (inC (fstC (sndC (inC (inC (sndC (fstC (inC (fstC (sndC (inC (inC (sndC (fstC (sndC b36))))))))))))))))))))))))))), .inBlock 8, .code (sndC (sndC (inC (fstC (sndC (inC (inC (sndC (sndC (inC (fstC (sndC (inC (inC (sndC (fstC (inC (fstC (sndC (inC (inC (sndC (fstC (sndC b36)))))))))))))))))))))))), .inBlock 5, .code (sndC (sndC (inC (inC (sndC (sndC (inC (fstC (sndC (inC (inC (sndC (fstC (inC (fstC (sndC (inC (inC (sndC (fstC (sndC b36))))))))))))))))))))), .inLoop (inC (inC (sndC (sndC (inC (fstC (sndC (inC (inC (sndC (fstC (inC (fstC (sndC (inC (inC (sndC (fstC (sndC b36))))))))))))))))))), .inBlock 4, .inBlock 3, .code (sndC (sndC (inC (inC (sndC (fstC (inC (fstC (sndC (inC (inC (sndC (fstC (sndC b36)))))))))))))), .inLoop (inC (inC (sndC (fstC (inC (fstC (sndC (inC (inC (sndC (fstC (sndC b36)))))))))))), .inBlock 2, .code (sndC (inC (fstC (sndC (inC (inC (sndC (fstC (sndC b36))))))))), .inBlock 1, .code (sndC (sndC (inC (inC (sndC (fstC (sndC b36))))))), .inLoop (inC (inC (sndC (fstC (sndC b36))))), .inBlock 0, .code (sndC (sndC b36))]
/-- join 10: live: 1, 2 -/
noncomputable def k36_j10 : List Item := [.inBlock 1, .code (sndC (sndC (inC (inC (sndC (fstC (sndC b36))))))), .inLoop (inC (inC (sndC (fstC (sndC b36))))), .inBlock 0, .code (sndC (sndC b36))]
/-- loop 10: live: 1, 2, 8 -/
noncomputable def k36_l10 : List Item := [.code (inC (inC (sndC (sndC (inC (fstC (sndC (inC (inC (sndC (fstC (sndC b36)))))))))))), .inLoop (inC (inC (sndC (sndC (inC (fstC (sndC (inC (inC (sndC (fstC (sndC b36)))))))))))), .inBlock 10, .inBlock 1, .code (sndC (sndC (inC (inC (sndC (fstC (sndC b36))))))), .inLoop (inC (inC (sndC (fstC (sndC b36))))), .inBlock 0, .code (sndC (sndC b36))]
/-- join 12: live: 1 -/
noncomputable def k36_j12 : List Item := [.code (sndC (sndC (sndC b36)))]
/-- loop 12: live: 1, 9 -/
noncomputable def k36_l12 : List Item := [.code (inC (inC (sndC (fstC (sndC (sndC b36)))))), .inLoop (inC (inC (sndC (fstC (sndC (sndC b36)))))), .inBlock 12, .code (sndC (sndC (sndC b36)))]
/-- join 13: live: 1, 9 -/
noncomputable def k36_j13 : List Item := [.code (sndC (sndC (inC (inC (sndC (fstC (sndC (sndC b36)))))))), .inLoop (inC (inC (sndC (fstC (sndC (sndC b36)))))), .inBlock 12, .code (sndC (sndC (sndC b36)))]
/-- join 14: live: 1, 9 -/
noncomputable def k36_j14 : List Item := [.inBlock 13, .code (sndC (sndC (inC (inC (sndC (fstC (sndC (sndC b36)))))))), .inLoop (inC (inC (sndC (fstC (sndC (sndC b36)))))), .inBlock 12, .code (sndC (sndC (sndC b36)))]
/-- loop 14: live: 1, 9, 10 -/
noncomputable def k36_l14 : List Item := [.code (inC (inC (sndC (inC (fstC (sndC (inC (inC (sndC (fstC (sndC (sndC b36)))))))))))), .inLoop (inC (inC (sndC (inC (fstC (sndC (inC (inC (sndC (fstC (sndC (sndC b36)))))))))))), .inBlock 14, .inBlock 13, .code (sndC (sndC (inC (inC (sndC (fstC (sndC (sndC b36)))))))), .inLoop (inC (inC (sndC (fstC (sndC (sndC b36)))))), .inBlock 12, .code (sndC (sndC (sndC b36)))]
/-- join 16: live: 1 -/
noncomputable def k36_j16 : List Item := [.code (sndC (sndC (sndC (sndC b36))))]
/-- loop 16: live: 1, 11 -/
noncomputable def k36_l16 : List Item := [.code (inC (inC (sndC (fstC (sndC (sndC (sndC b36))))))), .inLoop (inC (inC (sndC (fstC (sndC (sndC (sndC b36))))))), .inBlock 16, .code (sndC (sndC (sndC (sndC b36))))]
/-- join 17: live: 1, 11 -/
noncomputable def k36_j17 : List Item := [.code (sndC (sndC (inC (inC (sndC (fstC (sndC (sndC (sndC b36))))))))), .inLoop (inC (inC (sndC (fstC (sndC (sndC (sndC b36))))))), .inBlock 16, .code (sndC (sndC (sndC (sndC b36))))]
/-- join 18: live: 1, 11 -/
noncomputable def k36_j18 : List Item := [.inBlock 17, .code (sndC (sndC (inC (inC (sndC (fstC (sndC (sndC (sndC b36))))))))), .inLoop (inC (inC (sndC (fstC (sndC (sndC (sndC b36))))))), .inBlock 16, .code (sndC (sndC (sndC (sndC b36))))]
/-- loop 18: live: 1, 11, 12 -/
noncomputable def k36_l18 : List Item := [.code (inC (inC (sndC (inC (fstC (sndC (inC (inC (sndC (fstC (sndC (sndC (sndC b36))))))))))))), .inLoop (inC (inC (sndC (inC (fstC (sndC (inC (inC (sndC (fstC (sndC (sndC (sndC b36))))))))))))), .inBlock 18, .inBlock 17, .code (sndC (sndC (inC (inC (sndC (fstC (sndC (sndC (sndC b36))))))))), .inLoop (inC (inC (sndC (fstC (sndC (sndC (sndC b36))))))), .inBlock 16, .code (sndC (sndC (sndC (sndC b36))))]
/-- join 20: live:  -/
noncomputable def k36_j20 : List Item := []
/-- loop 20: live: 1, 13 -/
noncomputable def k36_l20 : List Item := [.code (inC (inC (sndC (sndC (sndC (sndC (sndC b36))))))), .inLoop (inC (inC (sndC (sndC (sndC (sndC (sndC b36))))))), .inBlock 20]
/-- join 21: live: 1, 13 -/
noncomputable def k36_j21 : List Item := [.code (sndC (sndC (inC (inC (sndC (sndC (sndC (sndC (sndC b36))))))))), .inLoop (inC (inC (sndC (sndC (sndC (sndC (sndC b36))))))), .inBlock 20]
/-- join 22: live: 1, 13 -/
noncomputable def k36_j22 : List Item := [.inBlock 21, .code (sndC (sndC (inC (inC (sndC (sndC (sndC (sndC (sndC b36))))))))), .inLoop (inC (inC (sndC (sndC (sndC (sndC (sndC b36))))))), .inBlock 20]
/-- loop 22: live: 1, 13, 14 -/
noncomputable def k36_l22 : List Item := [.code (inC (inC (sndC (inC (fstC (sndC (inC (inC (sndC (sndC (sndC (sndC (sndC b36))))))))))))), .inLoop (inC (inC (sndC (inC (fstC (sndC (inC (inC (sndC (sndC (sndC (sndC (sndC b36))))))))))))), .inBlock 22, .inBlock 21, .code (sndC (sndC (inC (inC (sndC (sndC (sndC (sndC (sndC b36))))))))), .inLoop (inC (inC (sndC (sndC (sndC (sndC (sndC b36))))))), .inBlock 20]
def a36 (m : Module) : List (AV Ty) := [.agg [.sl true (91 : Nat) m.externs, .sl true (94 : Nat) m.globals, .sl true (96 : Nat) m.tables, .sl true (33 : Nat) m.funcs]]
noncomputable def R36 (m : Module) : St Ty → EvR := resT tb C36 Try.f36.results.toList .keep (a36 m)
def s36_l0 (m : Module) (v2 : Int) (h0 : List Extern) (h0_1 : List Global) (h0_2 : List Table) (h0_3 : List Func) : St Ty := St.mk [(1, .ptr (0) [] (0) (0)), (2, .v (.int .i64 v2))] [some (Root.mk (27) true [Module.mk h0 h0_1 h0_2 h0_3])]
def s36_l2 (m : Module) (v2 : Int) (v3 : Int) (h0 : List Extern) (h0_1 : List Global) (h0_2 : List Table) (h0_3 : List Func) : St Ty := St.mk [(1, .ptr (0) [] (0) (0)), (2, .v (.int .i64 v2)), (3, .v (.int .i64 v3))] [some (Root.mk (27) true [Module.mk h0 h0_1 h0_2 h0_3])]
def s36_j0 (m : Module) (h0 : List Extern) (h0_1 : List Global) (h0_2 : List Table) (h0_3 : List Func) : St Ty := St.mk [(1, .ptr (0) [] (0) (0))] [some (Root.mk (27) true [Module.mk h0 h0_1 h0_2 h0_3])]
def s36_l4 (m : Module) (v2 : Int) (v3 : Int) (v4 : Nat) (v4_1 : Nat) (v5 : Int) (h0 : List Extern) (h0_1 : List Global) (h0_2 : List Table) (h0_3 : List Func) : St Ty := St.mk [(1, .ptr (0) [] (0) (0)), (2, .v (.int .i64 v2)), (3, .v (.int .i64 v3)), (4, .ref (0) [(0, 3), (v4, 4), (v4_1, 0)] none false), (5, .v (.int .i64 v5))] [some (Root.mk (27) true [Module.mk h0 h0_1 h0_2 h0_3])]
def s36_j2 (m : Module) (v2 : Int) (h0 : List Extern) (h0_1 : List Global) (h0_2 : List Table) (h0_3 : List Func) : St Ty := St.mk [(1, .ptr (0) [] (0) (0)), (2, .v (.int .i64 v2))] [some (Root.mk (27) true [Module.mk h0 h0_1 h0_2 h0_3])]
def s36_l12 (m : Module) (v9 : Int) (h0 : List Extern) (h0_1 : List Global) (h0_2 : List Table) (h0_3 : List Func) : St Ty := St.mk [(1, .ptr (0) [] (0) (0)), (9, .v (.int .i64 v9))] [some (Root.mk (27) true [Module.mk h0 h0_1 h0_2 h0_3])]
def s36_l6 (m : Module) (v2 : Int) (v3 : Int) (v4 : Nat) (v4_1 : Nat) (v5 : Int) (v6 : Int) (h0 : List Extern) (h0_1 : List Global) (h0_2 : List Table) (h0_3 : List Func) : St Ty := St.mk [(1, .ptr (0) [] (0) (0)), (2, .v (.int .i64 v2)), (3, .v (.int .i64 v3)), (4, .ref (0) [(0, 3), (v4, 4), (v4_1, 0)] none false), (5, .v (.int .i64 v5)), (6, .v (.int .i64 v6))] [some (Root.mk (27) true [Module.mk h0 h0_1 h0_2 h0_3])]
def s36_j4 (m : Module) (v2 : Int) (v3 : Int) (h0 : List Extern) (h0_1 : List Global) (h0_2 : List Table) (h0_3 : List Func) : St Ty := St.mk [(1, .ptr (0) [] (0) (0)), (2, .v (.int .i64 v2)), (3, .v (.int .i64 v3))] [some (Root.mk (27) true [Module.mk h0 h0_1 h0_2 h0_3])]
def s36_l10 (m : Module) (v2 : Int) (v8 : Int) (h0 : List Extern) (h0_1 : List Global) (h0_2 : List Table) (h0_3 : List Func) : St Ty := St.mk [(1, .ptr (0) [] (0) (0)), (2, .v (.int .i64 v2)), (8, .v (.int .i64 v8))] [some (Root.mk (27) true [Module.mk h0 h0_1 h0_2 h0_3])]
def s36_l14 (m : Module) (v9 : Int) (v10 : Int) (h0 : List Extern) (h0_1 : List Global) (h0_2 : List Table) (h0_3 : List Func) : St Ty := St.mk [(1, .ptr (0) [] (0) (0)), (9, .v (.int .i64 v9)), (10, .v (.int .i64 v10))] [some (Root.mk (27) true [Module.mk h0 h0_1 h0_2 h0_3])]
def s36_j12 (m : Module) (h0 : List Extern) (h0_1 : List Global) (h0_2 : List Table) (h0_3 : List Func) : St Ty := St.mk [(1, .ptr (0) [] (0) (0))] [some (Root.mk (27) true [Module.mk h0 h0_1 h0_2 h0_3])]
def s36_j6 (m : Module) (v2 : Int) (v3 : Int) (v4 : Nat) (v4_1 : Nat) (v5 : Int) (h0 : List Extern) (h0_1 : List Global) (h0_2 : List Table) (h0_3 : List Func) : St Ty := St.mk [(1, .ptr (0) [] (0) (0)), (2, .v (.int .i64 v2)), (3, .v (.int .i64 v3)), (4, .ref (0) [(0, 3), (v4, 4), (v4_1, 0)] none false), (5, .v (.int .i64 v5))] [some (Root.mk (27) true [Module.mk h0 h0_1 h0_2 h0_3])]
def s36_j3 (m : Module) (v2 : Int) (v3 : Int) (h0 : List Extern) (h0_1 : List Global) (h0_2 : List Table) (h0_3 : List Func) : St Ty := St.mk [(1, .ptr (0) [] (0) (0)), (2, .v (.int .i64 v2)), (3, .v (.int .i64 v3))] [some (Root.mk (27) true [Module.mk h0 h0_1 h0_2 h0_3])]
def s36_j10 (m : Module) (v2 : Int) (h0 : List Extern) (h0_1 : List Global) (h0_2 : List Table) (h0_3 : List Func) : St Ty := St.mk [(1, .ptr (0) [] (0) (0)), (2, .v (.int .i64 v2))] [some (Root.mk (27) true [Module.mk h0 h0_1 h0_2 h0_3])]
def s36_j14 (m : Module) (v9 : Int) (h0 : List Extern) (h0_1 : List Global) (h0_2 : List Table) (h0_3 : List Func) : St Ty := St.mk [(1, .ptr (0) [] (0) (0)), (9, .v (.int .i64 v9))] [some (Root.mk (27) true [Module.mk h0 h0_1 h0_2 h0_3])]
def s36_l16 (m : Module) (v11 : Int) (h0 : List Extern) (h0_1 : List Global) (h0_2 : List Table) (h0_3 : List Func) : St Ty := St.mk [(1, .ptr (0) [] (0) (0)), (11, .v (.int .i64 v11))] [some (Root.mk (27) true [Module.mk h0 h0_1 h0_2 h0_3])]
def s36_l8 (m : Module) (v2 : Int) (v3 : Int) (v4 : Nat) (v4_1 : Nat) (v5 : Int) (v7 : Int) (h0 : List Extern) (h0_1 : List Global) (h0_2 : List Table) (h0_3 : List Func) : St Ty := St.mk [(1, .ptr (0) [] (0) (0)), (2, .v (.int .i64 v2)), (3, .v (.int .i64 v3)), (4, .ref (0) [(0, 3), (v4, 4), (v4_1, 0)] none false), (5, .v (.int .i64 v5)), (7, .v (.int .i64 v7))] [some (Root.mk (27) true [Module.mk h0 h0_1 h0_2 h0_3])]
def s36_j1 (m : Module) (v2 : Int) (h0 : List Extern) (h0_1 : List Global) (h0_2 : List Table) (h0_3 : List Func) : St Ty := St.mk [(1, .ptr (0) [] (0) (0)), (2, .v (.int .i64 v2))] [some (Root.mk (27) true [Module.mk h0 h0_1 h0_2 h0_3])]
def s36_j13 (m : Module) (v9 : Int) (h0 : List Extern) (h0_1 : List Global) (h0_2 : List Table) (h0_3 : List Func) : St Ty := St.mk [(1, .ptr (0) [] (0) (0)), (9, .v (.int .i64 v9))] [some (Root.mk (27) true [Module.mk h0 h0_1 h0_2 h0_3])]
def s36_l18 (m : Module) (v11 : Int) (v12 : Int) (h0 : List Extern) (h0_1 : List Global) (h0_2 : List Table) (h0_3 : List Func) : St Ty := St.mk [(1, .ptr (0) [] (0) (0)), (11, .v (.int .i64 v11)), (12, .v (.int .i64 v12))] [some (Root.mk (27) true [Module.mk h0 h0_1 h0_2 h0_3])]
def s36_j16 (m : Module) (h0 : List Extern) (h0_1 : List Global) (h0_2 : List Table) (h0_3 : List Func) : St Ty := St.mk [(1, .ptr (0) [] (0) (0))] [some (Root.mk (27) true [Module.mk h0 h0_1 h0_2 h0_3])]
def s36_j8 (m : Module) (v2 : Int) (v3 : Int) (v4 : Nat) (v4_1 : Nat) (v5 : Int) (h0 : List Extern) (h0_1 : List Global) (h0_2 : List Table) (h0_3 : List Func) : St Ty := St.mk [(1, .ptr (0) [] (0) (0)), (2, .v (.int .i64 v2)), (3, .v (.int .i64 v3)), (4, .ref (0) [(0, 3), (v4, 4), (v4_1, 0)] none false), (5, .v (.int .i64 v5))] [some (Root.mk (27) true [Module.mk h0 h0_1 h0_2 h0_3])]
def s36_j18 (m : Module) (v11 : Int) (h0 : List Extern) (h0_1 : List Global) (h0_2 : List Table) (h0_3 : List Func) : St Ty := St.mk [(1, .ptr (0) [] (0) (0)), (11, .v (.int .i64 v11))] [some (Root.mk (27) true [Module.mk h0 h0_1 h0_2 h0_3])]
def s36_l20 (m : Module) (v13 : Int) (h0 : List Extern) (h0_1 : List Global) (h0_2 : List Table) (h0_3 : List Func) : St Ty := St.mk [(1, .ptr (0) [] (0) (0)), (13, .v (.int .i64 v13))] [some (Root.mk (27) true [Module.mk h0 h0_1 h0_2 h0_3])]
def s36_j5 (m : Module) (v2 : Int) (v3 : Int) (v4 : Nat) (v4_1 : Nat) (v5 : Int) (h0 : List Extern) (h0_1 : List Global) (h0_2 : List Table) (h0_3 : List Func) : St Ty := St.mk [(1, .ptr (0) [] (0) (0)), (2, .v (.int .i64 v2)), (3, .v (.int .i64 v3)), (4, .ref (0) [(0, 3), (v4, 4), (v4_1, 0)] none false), (5, .v (.int .i64 v5))] [some (Root.mk (27) true [Module.mk h0 h0_1 h0_2 h0_3])]
def s36_j17 (m : Module) (v11 : Int) (h0 : List Extern) (h0_1 : List Global) (h0_2 : List Table) (h0_3 : List Func) : St Ty := St.mk [(1, .ptr (0) [] (0) (0)), (11, .v (.int .i64 v11))] [some (Root.mk (27) true [Module.mk h0 h0_1 h0_2 h0_3])]
def s36_l22 (m : Module) (v13 : Int) (v14 : Int) (h0 : List Extern) (h0_1 : List Global) (h0_2 : List Table) (h0_3 : List Func) : St Ty := St.mk [(1, .ptr (0) [] (0) (0)), (13, .v (.int .i64 v13)), (14, .v (.int .i64 v14))] [some (Root.mk (27) true [Module.mk h0 h0_1 h0_2 h0_3])]
def s36_j20 (m : Module)  : St Ty := St.mk [] []
def s36_j22 (m : Module) (v13 : Int) (h0 : List Extern) (h0_1 : List Global) (h0_2 : List Table) (h0_3 : List Func) : St Ty := St.mk [(1, .ptr (0) [] (0) (0)), (13, .v (.int .i64 v13))] [some (Root.mk (27) true [Module.mk h0 h0_1 h0_2 h0_3])]
def s36_j21 (m : Module) (v13 : Int) (h0 : List Extern) (h0_1 : List Global) (h0_2 : List Table) (h0_3 : List Func) : St Ty := St.mk [(1, .ptr (0) [] (0) (0)), (13, .v (.int .i64 v13))] [some (Root.mk (27) true [Module.mk h0 h0_1 h0_2 h0_3])]
theorem e36 (J : List Item → St Ty → EvR) (m : Module) : run tb C36 U36 J (R36 m) 4096 [.code b36] (startG (a36 m)) =
    J k36_l0 (s36_l0 m (0 : Int) (m.externs) (m.globals) (m.tables) (m.funcs)) := by kernel_rfl
theorem e36_l0 (J : List Item → St Ty → EvR) (m : Module) (v2 : Int) (h0 : List Extern) (h0_1 : List Global) (h0_2 : List Table) (h0_3 : List Func) : run tb C36 U36 J (R36 m) 4096 k36_l0 (s36_l0 m v2 h0 h0_1 h0_2 h0_3) =
    if decide (v2 < (↑h0_3.length : Int)) = true then
     J k36_l2 (s36_l2 m (v2) (0 : Int) (h0) (h0_1) (h0_2) (h0_3))
    else
     J k36_j0 (s36_j0 m (h0) (h0_1) (h0_2) (h0_3)) := by kernel_rfl
theorem e36_l2 (J : List Item → St Ty → EvR) (m : Module) (v2 : Int) (v3 : Int) (h0 : List Extern) (h0_1 : List Global) (h0_2 : List Table) (h0_3 : List Func) : run tb C36 U36 J (R36 m) 4096 k36_l2 (s36_l2 m v2 v3 h0 h0_1 h0_2 h0_3) =
    if (0 : Int) ≤ v2 then
     if v2 < (↑h0_3.length : Int) then
      if decide (v3 < (↑(h0_3.getD ((0 : Nat) + v2.toNat) (Func.mk ByteArray.empty false [] (0 : Int) [])).blocks.length : Int)) = true then
       if (0 : Int) ≤ v2 then
        if v2 < (↑h0_3.length : Int) then
         if (0 : Int) ≤ v3 then
          if v3 < (↑(h0_3.getD ((0 : Nat) + v2.toNat) (Func.mk ByteArray.empty false [] (0 : Int) [])).blocks.length : Int) then
           J k36_l4 (s36_l4 m (v2) (v3) ((0 : Nat) + v2.toNat) ((0 : Nat) + v3.toNat) (0 : Int) (h0) (h0_1) (h0_2) (h0_3))
          else
           none
         else
          none
        else
         none
       else
        none
      else
       J k36_j2 (s36_j2 m (v2) (h0) (h0_1) (h0_2) (h0_3))
     else
      none
    else
     none := by kernel_rfl
theorem e36_j0 (J : List Item → St Ty → EvR) (m : Module) (h0 : List Extern) (h0_1 : List Global) (h0_2 : List Table) (h0_3 : List Func) : run tb C36 U36 J (R36 m) 4096 k36_j0 (s36_j0 m h0 h0_1 h0_2 h0_3) =
    J k36_l12 (s36_l12 m (0 : Int) (h0) (h0_1) (h0_2) (h0_3)) := by kernel_rfl
theorem e36_l4 (J : List Item → St Ty → EvR) (m : Module) (v2 : Int) (v3 : Int) (v4 : Nat) (v4_1 : Nat) (v5 : Int) (h0 : List Extern) (h0_1 : List Global) (h0_2 : List Table) (h0_3 : List Func) : run tb C36 U36 J (R36 m) 4096 k36_l4 (s36_l4 m v2 v3 v4 v4_1 v5 h0 h0_1 h0_2 h0_3) =
    if decide (v5 < (↑((h0_3.getD v4 (Func.mk ByteArray.empty false [] (0 : Int) [])).blocks.getD v4_1 (Block.mk [])).ins.length : Int)) = true then
     J k36_l6 (s36_l6 m (v2) (v3) (v4) (v4_1) (v5) (0 : Int) (h0) (h0_1) (h0_2) (h0_3))
    else
     J k36_j4 (s36_j4 m (v2) (v3) (h0) (h0_1) (h0_2) (h0_3)) := by kernel_rfl
theorem e36_j2 (J : List Item → St Ty → EvR) (m : Module) (v2 : Int) (h0 : List Extern) (h0_1 : List Global) (h0_2 : List Table) (h0_3 : List Func) : run tb C36 U36 J (R36 m) 4096 k36_j2 (s36_j2 m v2 h0 h0_1 h0_2 h0_3) =
    J k36_l10 (s36_l10 m (v2) (0 : Int) (h0) (h0_1) (h0_2) (h0_3)) := by kernel_rfl
theorem e36_l12 (J : List Item → St Ty → EvR) (m : Module) (v9 : Int) (h0 : List Extern) (h0_1 : List Global) (h0_2 : List Table) (h0_3 : List Func) : run tb C36 U36 J (R36 m) 4096 k36_l12 (s36_l12 m v9 h0 h0_1 h0_2 h0_3) =
    if decide (v9 < (↑h0_2.length : Int)) = true then
     J k36_l14 (s36_l14 m (v9) (0 : Int) (h0) (h0_1) (h0_2) (h0_3))
    else
     J k36_j12 (s36_j12 m (h0) (h0_1) (h0_2) (h0_3)) := by kernel_rfl
theorem e36_l6 (J : List Item → St Ty → EvR) (m : Module) (v2 : Int) (v3 : Int) (v4 : Nat) (v4_1 : Nat) (v5 : Int) (v6 : Int) (h0 : List Extern) (h0_1 : List Global) (h0_2 : List Table) (h0_3 : List Func) : run tb C36 U36 J (R36 m) 4096 k36_l6 (s36_l6 m v2 v3 v4 v4_1 v5 v6 h0 h0_1 h0_2 h0_3) =
    if (0 : Int) ≤ v5 then
     if v5 < (↑((h0_3.getD v4 (Func.mk ByteArray.empty false [] (0 : Int) [])).blocks.getD v4_1 (Block.mk [])).ins.length : Int) then
      if decide (v6 < (↑(rdI (h0_3.getD v4 (Func.mk ByteArray.empty false [] (0 : Int) [])).blocks v4_1 ((0 : Nat) + v5.toNat)).args.length : Int)) = true then
       if (0 : Int) ≤ v5 then
        if v5 < (↑((h0_3.getD v4 (Func.mk ByteArray.empty false [] (0 : Int) [])).blocks.getD v4_1 (Block.mk [])).ins.length : Int) then
         if (0 : Int) ≤ v6 then
          if v6 < (↑(rdI (h0_3.getD v4 (Func.mk ByteArray.empty false [] (0 : Int) [])).blocks v4_1 ((0 : Nat) + v5.toNat)).args.length : Int) then
           J k36_l6 (s36_l6 m (v2) (v3) (v4) (v4_1) (v5) (IntKind.i64.wrap (v6 + (1 : Int))) (h0) (h0_1) (h0_2) (h0_3.set v4 (Func.mk (h0_3.getD v4 (Func.mk ByteArray.empty false [] (0 : Int) [])).name (h0_3.getD v4 (Func.mk ByteArray.empty false [] (0 : Int) [])).out (h0_3.getD v4 (Func.mk ByteArray.empty false [] (0 : Int) [])).params (h0_3.getD v4 (Func.mk ByteArray.empty false [] (0 : Int) [])).result (wrI (h0_3.getD v4 (Func.mk ByteArray.empty false [] (0 : Int) [])).blocks v4_1 ((0 : Nat) + v5.toNat) (Ins.mk (rdI (h0_3.getD v4 (Func.mk ByteArray.empty false [] (0 : Int) [])).blocks v4_1 ((0 : Nat) + v5.toNat)).op (rdI (h0_3.getD v4 (Func.mk ByteArray.empty false [] (0 : Int) [])).blocks v4_1 ((0 : Nat) + v5.toNat)).type_ (rdI (h0_3.getD v4 (Func.mk ByteArray.empty false [] (0 : Int) [])).blocks v4_1 ((0 : Nat) + v5.toNat)).to_ (rdI (h0_3.getD v4 (Func.mk ByteArray.empty false [] (0 : Int) [])).blocks v4_1 ((0 : Nat) + v5.toNat)).sym_ (rdI (h0_3.getD v4 (Func.mk ByteArray.empty false [] (0 : Int) [])).blocks v4_1 ((0 : Nat) + v5.toNat)).num ((rdI (h0_3.getD v4 (Func.mk ByteArray.empty false [] (0 : Int) [])).blocks v4_1 ((0 : Nat) + v5.toNat)).args.set ((0 : Nat) + v6.toNat) (-7 : Int)) (rdI (h0_3.getD v4 (Func.mk ByteArray.empty false [] (0 : Int) [])).blocks v4_1 ((0 : Nat) + v5.toNat)).into)))))
          else
           none
         else
          none
        else
         none
       else
        none
      else
       J k36_j6 (s36_j6 m (v2) (v3) (v4) (v4_1) (v5) (h0) (h0_1) (h0_2) (h0_3))
     else
      none
    else
     none := by kernel_rfl
theorem e36_j4 (J : List Item → St Ty → EvR) (m : Module) (v2 : Int) (v3 : Int) (h0 : List Extern) (h0_1 : List Global) (h0_2 : List Table) (h0_3 : List Func) : run tb C36 U36 J (R36 m) 4096 k36_j4 (s36_j4 m v2 v3 h0 h0_1 h0_2 h0_3) =
    J k36_j3 (s36_j3 m (v2) (v3) (h0) (h0_1) (h0_2) (h0_3)) := by kernel_rfl
theorem e36_l10 (J : List Item → St Ty → EvR) (m : Module) (v2 : Int) (v8 : Int) (h0 : List Extern) (h0_1 : List Global) (h0_2 : List Table) (h0_3 : List Func) : run tb C36 U36 J (R36 m) 4096 k36_l10 (s36_l10 m v2 v8 h0 h0_1 h0_2 h0_3) =
    if (0 : Int) ≤ v2 then
     if v2 < (↑h0_3.length : Int) then
      if decide (v8 < (↑(h0_3.getD ((0 : Nat) + v2.toNat) (Func.mk ByteArray.empty false [] (0 : Int) [])).params.length : Int)) = true then
       if (0 : Int) ≤ v2 then
        if v2 < (↑h0_3.length : Int) then
         if (0 : Int) ≤ v8 then
          if v8 < (↑(h0_3.getD ((0 : Nat) + v2.toNat) (Func.mk ByteArray.empty false [] (0 : Int) [])).params.length : Int) then
           J k36_l10 (s36_l10 m (v2) (IntKind.i64.wrap (v8 + (1 : Int))) (h0) (h0_1) (h0_2) (h0_3.set ((0 : Nat) + v2.toNat) (Func.mk (h0_3.getD ((0 : Nat) + v2.toNat) (Func.mk ByteArray.empty false [] (0 : Int) [])).name (h0_3.getD ((0 : Nat) + v2.toNat) (Func.mk ByteArray.empty false [] (0 : Int) [])).out ((h0_3.getD ((0 : Nat) + v2.toNat) (Func.mk ByteArray.empty false [] (0 : Int) [])).params.set ((0 : Nat) + v8.toNat) (9 : Int)) (h0_3.getD ((0 : Nat) + v2.toNat) (Func.mk ByteArray.empty false [] (0 : Int) [])).result (h0_3.getD ((0 : Nat) + v2.toNat) (Func.mk ByteArray.empty false [] (0 : Int) [])).blocks)))
          else
           none
         else
          none
        else
         none
       else
        none
      else
       J k36_j10 (s36_j10 m (v2) (h0) (h0_1) (h0_2) (h0_3))
     else
      none
    else
     none := by kernel_rfl
theorem e36_l14 (J : List Item → St Ty → EvR) (m : Module) (v9 : Int) (v10 : Int) (h0 : List Extern) (h0_1 : List Global) (h0_2 : List Table) (h0_3 : List Func) : run tb C36 U36 J (R36 m) 4096 k36_l14 (s36_l14 m v9 v10 h0 h0_1 h0_2 h0_3) =
    if (0 : Int) ≤ v9 then
     if v9 < (↑h0_2.length : Int) then
      if decide (v10 < (↑(h0_2.getD ((0 : Nat) + v9.toNat) (Table.mk ByteArray.empty [])).funcs.length : Int)) = true then
       if (0 : Int) ≤ v9 then
        if v9 < (↑h0_2.length : Int) then
         if (0 : Int) ≤ v10 then
          if v10 < (↑(h0_2.getD ((0 : Nat) + v9.toNat) (Table.mk ByteArray.empty [])).funcs.length : Int) then
           J k36_l14 (s36_l14 m (v9) (IntKind.i64.wrap (v10 + (1 : Int))) (h0) (h0_1) (h0_2.set ((0 : Nat) + v9.toNat) (Table.mk (h0_2.getD ((0 : Nat) + v9.toNat) (Table.mk ByteArray.empty [])).name ((h0_2.getD ((0 : Nat) + v9.toNat) (Table.mk ByteArray.empty [])).funcs.set ((0 : Nat) + v10.toNat) (77 : Int)))) (h0_3))
          else
           none
         else
          none
        else
         none
       else
        none
      else
       J k36_j14 (s36_j14 m (v9) (h0) (h0_1) (h0_2) (h0_3))
     else
      none
    else
     none := by kernel_rfl
theorem e36_j12 (J : List Item → St Ty → EvR) (m : Module) (h0 : List Extern) (h0_1 : List Global) (h0_2 : List Table) (h0_3 : List Func) : run tb C36 U36 J (R36 m) 4096 k36_j12 (s36_j12 m h0 h0_1 h0_2 h0_3) =
    J k36_l16 (s36_l16 m (0 : Int) (h0) (h0_1) (h0_2) (h0_3)) := by kernel_rfl
theorem e36_j6 (J : List Item → St Ty → EvR) (m : Module) (v2 : Int) (v3 : Int) (v4 : Nat) (v4_1 : Nat) (v5 : Int) (h0 : List Extern) (h0_1 : List Global) (h0_2 : List Table) (h0_3 : List Func) : run tb C36 U36 J (R36 m) 4096 k36_j6 (s36_j6 m v2 v3 v4 v4_1 v5 h0 h0_1 h0_2 h0_3) =
    J k36_l8 (s36_l8 m (v2) (v3) (v4) (v4_1) (v5) (0 : Int) (h0) (h0_1) (h0_2) (h0_3)) := by kernel_rfl
theorem e36_j3 (J : List Item → St Ty → EvR) (m : Module) (v2 : Int) (v3 : Int) (h0 : List Extern) (h0_1 : List Global) (h0_2 : List Table) (h0_3 : List Func) : run tb C36 U36 J (R36 m) 4096 k36_j3 (s36_j3 m v2 v3 h0 h0_1 h0_2 h0_3) =
    J k36_l2 (s36_l2 m (v2) (IntKind.i64.wrap (v3 + (1 : Int))) (h0) (h0_1) (h0_2) (h0_3)) := by kernel_rfl
theorem e36_j10 (J : List Item → St Ty → EvR) (m : Module) (v2 : Int) (h0 : List Extern) (h0_1 : List Global) (h0_2 : List Table) (h0_3 : List Func) : run tb C36 U36 J (R36 m) 4096 k36_j10 (s36_j10 m v2 h0 h0_1 h0_2 h0_3) =
    J k36_j1 (s36_j1 m (v2) (h0) (h0_1) (h0_2) (h0_3)) := by kernel_rfl
theorem e36_j14 (J : List Item → St Ty → EvR) (m : Module) (v9 : Int) (h0 : List Extern) (h0_1 : List Global) (h0_2 : List Table) (h0_3 : List Func) : run tb C36 U36 J (R36 m) 4096 k36_j14 (s36_j14 m v9 h0 h0_1 h0_2 h0_3) =
    J k36_j13 (s36_j13 m (v9) (h0) (h0_1) (h0_2) (h0_3)) := by kernel_rfl
theorem e36_l16 (J : List Item → St Ty → EvR) (m : Module) (v11 : Int) (h0 : List Extern) (h0_1 : List Global) (h0_2 : List Table) (h0_3 : List Func) : run tb C36 U36 J (R36 m) 4096 k36_l16 (s36_l16 m v11 h0 h0_1 h0_2 h0_3) =
    if decide (v11 < (↑h0_1.length : Int)) = true then
     J k36_l18 (s36_l18 m (v11) (0 : Int) (h0) (h0_1) (h0_2) (h0_3))
    else
     J k36_j16 (s36_j16 m (h0) (h0_1) (h0_2) (h0_3)) := by kernel_rfl
theorem e36_l8 (J : List Item → St Ty → EvR) (m : Module) (v2 : Int) (v3 : Int) (v4 : Nat) (v4_1 : Nat) (v5 : Int) (v7 : Int) (h0 : List Extern) (h0_1 : List Global) (h0_2 : List Table) (h0_3 : List Func) : run tb C36 U36 J (R36 m) 4096 k36_l8 (s36_l8 m v2 v3 v4 v4_1 v5 v7 h0 h0_1 h0_2 h0_3) =
    if (0 : Int) ≤ v5 then
     if v5 < (↑((h0_3.getD v4 (Func.mk ByteArray.empty false [] (0 : Int) [])).blocks.getD v4_1 (Block.mk [])).ins.length : Int) then
      if decide (v7 < (↑(rdI (h0_3.getD v4 (Func.mk ByteArray.empty false [] (0 : Int) [])).blocks v4_1 ((0 : Nat) + v5.toNat)).into.length : Int)) = true then
       if (0 : Int) ≤ v5 then
        if v5 < (↑((h0_3.getD v4 (Func.mk ByteArray.empty false [] (0 : Int) [])).blocks.getD v4_1 (Block.mk [])).ins.length : Int) then
         if (0 : Int) ≤ v7 then
          if v7 < (↑(rdI (h0_3.getD v4 (Func.mk ByteArray.empty false [] (0 : Int) [])).blocks v4_1 ((0 : Nat) + v5.toNat)).into.length : Int) then
           J k36_l8 (s36_l8 m (v2) (v3) (v4) (v4_1) (v5) (IntKind.i64.wrap (v7 + (1 : Int))) (h0) (h0_1) (h0_2) (h0_3.set v4 (Func.mk (h0_3.getD v4 (Func.mk ByteArray.empty false [] (0 : Int) [])).name (h0_3.getD v4 (Func.mk ByteArray.empty false [] (0 : Int) [])).out (h0_3.getD v4 (Func.mk ByteArray.empty false [] (0 : Int) [])).params (h0_3.getD v4 (Func.mk ByteArray.empty false [] (0 : Int) [])).result (wrI (h0_3.getD v4 (Func.mk ByteArray.empty false [] (0 : Int) [])).blocks v4_1 ((0 : Nat) + v5.toNat) (Ins.mk (rdI (h0_3.getD v4 (Func.mk ByteArray.empty false [] (0 : Int) [])).blocks v4_1 ((0 : Nat) + v5.toNat)).op (rdI (h0_3.getD v4 (Func.mk ByteArray.empty false [] (0 : Int) [])).blocks v4_1 ((0 : Nat) + v5.toNat)).type_ (rdI (h0_3.getD v4 (Func.mk ByteArray.empty false [] (0 : Int) [])).blocks v4_1 ((0 : Nat) + v5.toNat)).to_ (rdI (h0_3.getD v4 (Func.mk ByteArray.empty false [] (0 : Int) [])).blocks v4_1 ((0 : Nat) + v5.toNat)).sym_ (rdI (h0_3.getD v4 (Func.mk ByteArray.empty false [] (0 : Int) [])).blocks v4_1 ((0 : Nat) + v5.toNat)).num (rdI (h0_3.getD v4 (Func.mk ByteArray.empty false [] (0 : Int) [])).blocks v4_1 ((0 : Nat) + v5.toNat)).args ((rdI (h0_3.getD v4 (Func.mk ByteArray.empty false [] (0 : Int) [])).blocks v4_1 ((0 : Nat) + v5.toNat)).into.set ((0 : Nat) + v7.toNat) (-7 : Int)))))))
          else
           none
         else
          none
        else
         none
       else
        none
      else
       J k36_j8 (s36_j8 m (v2) (v3) (v4) (v4_1) (v5) (h0) (h0_1) (h0_2) (h0_3))
     else
      none
    else
     none := by kernel_rfl
theorem e36_j1 (J : List Item → St Ty → EvR) (m : Module) (v2 : Int) (h0 : List Extern) (h0_1 : List Global) (h0_2 : List Table) (h0_3 : List Func) : run tb C36 U36 J (R36 m) 4096 k36_j1 (s36_j1 m v2 h0 h0_1 h0_2 h0_3) =
    J k36_l0 (s36_l0 m (IntKind.i64.wrap (v2 + (1 : Int))) (h0) (h0_1) (h0_2) (h0_3)) := by kernel_rfl
theorem e36_j13 (J : List Item → St Ty → EvR) (m : Module) (v9 : Int) (h0 : List Extern) (h0_1 : List Global) (h0_2 : List Table) (h0_3 : List Func) : run tb C36 U36 J (R36 m) 4096 k36_j13 (s36_j13 m v9 h0 h0_1 h0_2 h0_3) =
    J k36_l12 (s36_l12 m (IntKind.i64.wrap (v9 + (1 : Int))) (h0) (h0_1) (h0_2) (h0_3)) := by kernel_rfl
theorem e36_l18 (J : List Item → St Ty → EvR) (m : Module) (v11 : Int) (v12 : Int) (h0 : List Extern) (h0_1 : List Global) (h0_2 : List Table) (h0_3 : List Func) : run tb C36 U36 J (R36 m) 4096 k36_l18 (s36_l18 m v11 v12 h0 h0_1 h0_2 h0_3) =
    if (0 : Int) ≤ v11 then
     if v11 < (↑h0_1.length : Int) then
      if decide (v12 < (↑(h0_1.getD ((0 : Nat) + v11.toNat) (Global.mk ByteArray.empty [])).cells.length : Int)) = true then
       if (0 : Int) ≤ v11 then
        if v11 < (↑h0_1.length : Int) then
         if (0 : Int) ≤ v12 then
          if v12 < (↑(h0_1.getD ((0 : Nat) + v11.toNat) (Global.mk ByteArray.empty [])).cells.length : Int) then
           J k36_l18 (s36_l18 m (v11) (IntKind.i64.wrap (v12 + (1 : Int))) (h0) (h0_1.set ((0 : Nat) + v11.toNat) (Global.mk (h0_1.getD ((0 : Nat) + v11.toNat) (Global.mk ByteArray.empty [])).name ((h0_1.getD ((0 : Nat) + v11.toNat) (Global.mk ByteArray.empty [])).cells.set ((0 : Nat) + v12.toNat) (77 : Int)))) (h0_2) (h0_3))
          else
           none
         else
          none
        else
         none
       else
        none
      else
       J k36_j18 (s36_j18 m (v11) (h0) (h0_1) (h0_2) (h0_3))
     else
      none
    else
     none := by kernel_rfl
theorem e36_j16 (J : List Item → St Ty → EvR) (m : Module) (h0 : List Extern) (h0_1 : List Global) (h0_2 : List Table) (h0_3 : List Func) : run tb C36 U36 J (R36 m) 4096 k36_j16 (s36_j16 m h0 h0_1 h0_2 h0_3) =
    J k36_l20 (s36_l20 m (0 : Int) (h0) (h0_1) (h0_2) (h0_3)) := by kernel_rfl
theorem e36_j8 (J : List Item → St Ty → EvR) (m : Module) (v2 : Int) (v3 : Int) (v4 : Nat) (v4_1 : Nat) (v5 : Int) (h0 : List Extern) (h0_1 : List Global) (h0_2 : List Table) (h0_3 : List Func) : run tb C36 U36 J (R36 m) 4096 k36_j8 (s36_j8 m v2 v3 v4 v4_1 v5 h0 h0_1 h0_2 h0_3) =
    if (0 : Int) ≤ v5 then
     if v5 < (↑((h0_3.getD v4 (Func.mk ByteArray.empty false [] (0 : Int) [])).blocks.getD v4_1 (Block.mk [])).ins.length : Int) then
      J k36_j5 (s36_j5 m (v2) (v3) (v4) (v4_1) (v5) (h0) (h0_1) (h0_2) (h0_3.set v4 (Func.mk (h0_3.getD v4 (Func.mk ByteArray.empty false [] (0 : Int) [])).name (h0_3.getD v4 (Func.mk ByteArray.empty false [] (0 : Int) [])).out (h0_3.getD v4 (Func.mk ByteArray.empty false [] (0 : Int) [])).params (h0_3.getD v4 (Func.mk ByteArray.empty false [] (0 : Int) [])).result (wrI (h0_3.getD v4 (Func.mk ByteArray.empty false [] (0 : Int) [])).blocks v4_1 ((0 : Nat) + v5.toNat) (Ins.mk (99 : Int) (rdI (h0_3.getD v4 (Func.mk ByteArray.empty false [] (0 : Int) [])).blocks v4_1 ((0 : Nat) + v5.toNat)).type_ (rdI (h0_3.getD v4 (Func.mk ByteArray.empty false [] (0 : Int) [])).blocks v4_1 ((0 : Nat) + v5.toNat)).to_ (rdI (h0_3.getD v4 (Func.mk ByteArray.empty false [] (0 : Int) [])).blocks v4_1 ((0 : Nat) + v5.toNat)).sym_ (rdI (h0_3.getD v4 (Func.mk ByteArray.empty false [] (0 : Int) [])).blocks v4_1 ((0 : Nat) + v5.toNat)).num (rdI (h0_3.getD v4 (Func.mk ByteArray.empty false [] (0 : Int) [])).blocks v4_1 ((0 : Nat) + v5.toNat)).args (rdI (h0_3.getD v4 (Func.mk ByteArray.empty false [] (0 : Int) [])).blocks v4_1 ((0 : Nat) + v5.toNat)).into)))))
     else
      none
    else
     none := by kernel_rfl
theorem e36_j18 (J : List Item → St Ty → EvR) (m : Module) (v11 : Int) (h0 : List Extern) (h0_1 : List Global) (h0_2 : List Table) (h0_3 : List Func) : run tb C36 U36 J (R36 m) 4096 k36_j18 (s36_j18 m v11 h0 h0_1 h0_2 h0_3) =
    J k36_j17 (s36_j17 m (v11) (h0) (h0_1) (h0_2) (h0_3)) := by kernel_rfl
theorem e36_l20 (J : List Item → St Ty → EvR) (m : Module) (v13 : Int) (h0 : List Extern) (h0_1 : List Global) (h0_2 : List Table) (h0_3 : List Func) : run tb C36 U36 J (R36 m) 4096 k36_l20 (s36_l20 m v13 h0 h0_1 h0_2 h0_3) =
    if decide (v13 < (↑h0.length : Int)) = true then
     J k36_l22 (s36_l22 m (v13) (0 : Int) (h0) (h0_1) (h0_2) (h0_3))
    else
     J k36_j20 (s36_j20 m) := by kernel_rfl
theorem e36_j5 (J : List Item → St Ty → EvR) (m : Module) (v2 : Int) (v3 : Int) (v4 : Nat) (v4_1 : Nat) (v5 : Int) (h0 : List Extern) (h0_1 : List Global) (h0_2 : List Table) (h0_3 : List Func) : run tb C36 U36 J (R36 m) 4096 k36_j5 (s36_j5 m v2 v3 v4 v4_1 v5 h0 h0_1 h0_2 h0_3) =
    J k36_l4 (s36_l4 m (v2) (v3) (v4) (v4_1) (IntKind.i64.wrap (v5 + (1 : Int))) (h0) (h0_1) (h0_2) (h0_3)) := by kernel_rfl
theorem e36_j17 (J : List Item → St Ty → EvR) (m : Module) (v11 : Int) (h0 : List Extern) (h0_1 : List Global) (h0_2 : List Table) (h0_3 : List Func) : run tb C36 U36 J (R36 m) 4096 k36_j17 (s36_j17 m v11 h0 h0_1 h0_2 h0_3) =
    J k36_l16 (s36_l16 m (IntKind.i64.wrap (v11 + (1 : Int))) (h0) (h0_1) (h0_2) (h0_3)) := by kernel_rfl
theorem e36_l22 (J : List Item → St Ty → EvR) (m : Module) (v13 : Int) (v14 : Int) (h0 : List Extern) (h0_1 : List Global) (h0_2 : List Table) (h0_3 : List Func) : run tb C36 U36 J (R36 m) 4096 k36_l22 (s36_l22 m v13 v14 h0 h0_1 h0_2 h0_3) =
    if (0 : Int) ≤ v13 then
     if v13 < (↑h0.length : Int) then
      if decide (v14 < (↑(h0.getD ((0 : Nat) + v13.toNat) (Extern.mk ByteArray.empty [] (0 : Int))).params.length : Int)) = true then
       if (0 : Int) ≤ v13 then
        if v13 < (↑h0.length : Int) then
         if (0 : Int) ≤ v14 then
          if v14 < (↑(h0.getD ((0 : Nat) + v13.toNat) (Extern.mk ByteArray.empty [] (0 : Int))).params.length : Int) then
           J k36_l22 (s36_l22 m (v13) (IntKind.i64.wrap (v14 + (1 : Int))) (h0.set ((0 : Nat) + v13.toNat) (Extern.mk (h0.getD ((0 : Nat) + v13.toNat) (Extern.mk ByteArray.empty [] (0 : Int))).name ((h0.getD ((0 : Nat) + v13.toNat) (Extern.mk ByteArray.empty [] (0 : Int))).params.set ((0 : Nat) + v14.toNat) (9 : Int)) (h0.getD ((0 : Nat) + v13.toNat) (Extern.mk ByteArray.empty [] (0 : Int))).result)) (h0_1) (h0_2) (h0_3))
          else
           none
         else
          none
        else
         none
       else
        none
      else
       J k36_j22 (s36_j22 m (v13) (h0) (h0_1) (h0_2) (h0_3))
     else
      none
    else
     none := by kernel_rfl
theorem e36_j20 (J : List Item → St Ty → EvR) (m : Module)  : run tb C36 U36 J (R36 m) 4096 k36_j20 (s36_j20 m) =
    some (.tup [], [.dead]) := by kernel_rfl
theorem e36_j22 (J : List Item → St Ty → EvR) (m : Module) (v13 : Int) (h0 : List Extern) (h0_1 : List Global) (h0_2 : List Table) (h0_3 : List Func) : run tb C36 U36 J (R36 m) 4096 k36_j22 (s36_j22 m v13 h0 h0_1 h0_2 h0_3) =
    J k36_j21 (s36_j21 m (v13) (h0) (h0_1) (h0_2) (h0_3)) := by kernel_rfl
theorem e36_j21 (J : List Item → St Ty → EvR) (m : Module) (v13 : Int) (h0 : List Extern) (h0_1 : List Global) (h0_2 : List Table) (h0_3 : List Func) : run tb C36 U36 J (R36 m) 4096 k36_j21 (s36_j21 m v13 h0 h0_1 h0_2 h0_3) =
    J k36_l20 (s36_l20 m (IntKind.i64.wrap (v13 + (1 : Int))) (h0) (h0_1) (h0_2) (h0_3)) := by kernel_rfl

theorem in36 : Entered 36 := ⟨Try.f36, b36, by kernel_rfl, by kernel_rfl, by kernel_rfl⟩
theorem fn36 (m : Ev.Module) {res : AV Ty} {outs : List (AV Ty)} (h : Ends C36 U36 (R36 m) [.code b36] (startG (a36 m)) (some (res, outs))) : CallOk tb Try.prog 36 (a36 m) res outs := by
  obtain ⟨n0, hn⟩ := h
  exact fn_gift (C := C36) (U := U36) (n := 0 + n0) (q := .keep) tbOk good (fun f mu S h => by cases h) mixed (fn := Try.f36) (body := b36) (by kernel_rfl) (by kernel_rfl) rfl rfl (by show 1 ≤ 184; omega) (hn 0)
section
variable {m : Ev.Module} {E : List Ev.Extern} {A : List Ev.Global} {T : List Ev.Table} {G0 : List Ev.Func}
abbrev PF (G0 G : List Ev.Func) : Prop := G.map skF = G0.map skF
theorem Spoil.l6 {k b i : Nat} (hok : okF (G0.getD k (Func.mk ByteArray.empty false [] 0 []))) (hk : k < G0.length) (hb : b < (G0.getD k (Func.mk ByteArray.empty false [] 0 [])).blocks.length) (hi : i < ((G0.getD k (Func.mk ByteArray.empty false [] 0 [])).blocks.getD b (Block.mk [])).ins.length) (j : Nat) (G : List Ev.Func) (hj : j < (rdI (G0.getD k (Func.mk ByteArray.empty false [] 0 [])).blocks b i).args.length) (hG : PF G0 G) :
    ∃ G', PF G0 G' ∧ Goes C36 U36 (R36 m) k36_l6 (s36_l6 m k b k b i j E A T G) k36_l6 (s36_l6 m k b k b i (j + 1 : Nat) E A T G') := by
  have S := shF hG k
  have h1 := S.ins b
  have h2 := S.arg b i
  have h3 := rdI_le hok hb hi
  unfold okIns at h3
  refine ⟨?wW, ?pP, .step fun J => ?rR⟩
  rotate_left 2
  · rw [e36_l6]
    try simp only [Int.toNat_natCast, Nat.zero_add]
    have h4 : i < ((G.getD k (Func.mk ByteArray.empty false [] 0 [])).blocks.getD b (Block.mk [])).ins.length := by omega
    have h5 : j < (rdI (G.getD k (Func.mk ByteArray.empty false [] 0 [])).blocks b i).args.length := by omega
    have h6 : j < (((G.getD k (Func.mk ByteArray.empty false [] 0 [])).blocks.getD b (Block.mk [])).ins.getD i (Ins.mk 0 0 0 0 0 [] [])).args.length := h5
    simp (disch := first | omega | assumption | (rw [decide_eq_true_eq]; omega) | (rw [decide_eq_false_iff_not]; omega)) only [↓if_pos, ↓if_neg, if_true, if_false, wrap_up, Int.toNat_natCast, Nat.zero_add]
    rfl
  · refine (map_set_same (d := (Func.mk ByteArray.empty false [] 0 [])) ?_).trans hG
    exact Prod.ext rfl (wrI_sk (Prod.ext (by simp [skI]) rfl))
theorem Spoil.l8 {k b i : Nat} (hok : okF (G0.getD k (Func.mk ByteArray.empty false [] 0 []))) (hk : k < G0.length) (hb : b < (G0.getD k (Func.mk ByteArray.empty false [] 0 [])).blocks.length) (hi : i < ((G0.getD k (Func.mk ByteArray.empty false [] 0 [])).blocks.getD b (Block.mk [])).ins.length) (j : Nat) (G : List Ev.Func) (hj : j < (rdI (G0.getD k (Func.mk ByteArray.empty false [] 0 [])).blocks b i).into.length) (hG : PF G0 G) :
    ∃ G', PF G0 G' ∧ Goes C36 U36 (R36 m) k36_l8 (s36_l8 m k b k b i j E A T G) k36_l8 (s36_l8 m k b k b i (j + 1 : Nat) E A T G') := by
  have S := shF hG k
  have h1 := S.ins b
  have h2 := S.int b i
  have h3 := rdI_le hok hb hi
  unfold okIns at h3
  refine ⟨?wW, ?pP, .step fun J => ?rR⟩
  rotate_left 2
  · rw [e36_l8]
    try simp only [Int.toNat_natCast, Nat.zero_add]
    have h4 : i < ((G.getD k (Func.mk ByteArray.empty false [] 0 [])).blocks.getD b (Block.mk [])).ins.length := by omega
    have h5 : j < (rdI (G.getD k (Func.mk ByteArray.empty false [] 0 [])).blocks b i).into.length := by omega
    have h6 : j < (((G.getD k (Func.mk ByteArray.empty false [] 0 [])).blocks.getD b (Block.mk [])).ins.getD i (Ins.mk 0 0 0 0 0 [] [])).into.length := h5
    simp (disch := first | omega | assumption | (rw [decide_eq_true_eq]; omega) | (rw [decide_eq_false_iff_not]; omega)) only [↓if_pos, ↓if_neg, if_true, if_false, wrap_up, Int.toNat_natCast, Nat.zero_add]
    rfl
  · refine (map_set_same (d := (Func.mk ByteArray.empty false [] 0 [])) ?_).trans hG
    exact Prod.ext rfl (wrI_sk (Prod.ext rfl (by simp [skI])))
theorem Spoil.l4 {k b : Nat} (hok : okF (G0.getD k (Func.mk ByteArray.empty false [] 0 []))) (hk : k < G0.length) (hb : b < (G0.getD k (Func.mk ByteArray.empty false [] 0 [])).blocks.length) (i : Nat) (G : List Ev.Func) (hi : i < ((G0.getD k (Func.mk ByteArray.empty false [] 0 [])).blocks.getD b (Block.mk [])).ins.length) (hG : PF G0 G) :
    ∃ G', PF G0 G' ∧ Goes C36 U36 (R36 m) k36_l4 (s36_l4 m k b k b i E A T G) k36_l4 (s36_l4 m k b k b (i + 1 : Nat) E A T G') := by
  have h3 := rdI_le hok hb hi
  unfold okIns at h3
  have h7 := (hok.blk hb).1
  obtain ⟨G1, p1, g1⟩ := Goes.shape (fun j G => s36_l6 m k b k b i j E A T G) _ (PF G0) (fun j G hj hG => Spoil.l6 (m := m) (E := E) (A := A) (T := T) hok hk hb hi j G hj hG) _ 0 G (Nat.zero_add _) hG
  obtain ⟨G2, p2, g2⟩ := Goes.shape (fun j G => s36_l8 m k b k b i j E A T G) _ (PF G0) (fun j G hj hG => Spoil.l8 (m := m) (E := E) (A := A) (T := T) hok hk hb hi j G hj hG) _ 0 G1 (Nat.zero_add _) p1
  have S := shF hG k
  have S1 := shF p1 k
  have S2 := shF p2 k
  have a1 := S.ins b
  have a2 := S1.ins b
  have a3 := S2.ins b
  have a4 := S1.arg b i
  have a5 := S2.int b i
  have h4 : i < ((G1.getD k (Func.mk ByteArray.empty false [] 0 [])).blocks.getD b (Block.mk [])).ins.length := by omega
  have h5 : i < ((G2.getD k (Func.mk ByteArray.empty false [] 0 [])).blocks.getD b (Block.mk [])).ins.length := by omega
  have a6 : (((G1.getD k (Func.mk ByteArray.empty false [] 0 [])).blocks.getD b (Block.mk [])).ins.getD i (Ins.mk 0 0 0 0 0 [] [])).args.length = (rdI (G0.getD k (Func.mk ByteArray.empty false [] 0 [])).blocks b i).args.length := a4
  have a7 : (((G2.getD k (Func.mk ByteArray.empty false [] 0 [])).blocks.getD b (Block.mk [])).ins.getD i (Ins.mk 0 0 0 0 0 [] [])).into.length = (rdI (G0.getD k (Func.mk ByteArray.empty false [] 0 [])).blocks b i).into.length := a5
  refine ⟨?wW, ?pP, Goes.trans (k' := k36_l6) (s' := s36_l6 m k b k b i (0 : Nat) E A T G) (.step fun J => ?_) (g1.trans (Goes.trans (k' := k36_j6) (s' := s36_j6 m k b k b i E A T G1) (.step fun J => ?_) (Goes.trans (k' := k36_l8) (s' := s36_l8 m k b k b i (0 : Nat) E A T G1) (.step fun J => ?_) (g2.trans (Goes.trans (k' := k36_j8) (s' := s36_j8 m k b k b i E A T G2) (.step fun J => ?_) (Goes.trans (k' := k36_j5) (s' := s36_j5 m k b k b i E A T ?wW) (.step fun J => ?_) (.step fun J => ?_)))))))⟩
  rotate_left 2
  · rw [e36_l4]
    simp (disch := first | omega | assumption | (rw [decide_eq_true_eq]; omega) | (rw [decide_eq_false_iff_not]; omega)) only [↓if_pos, ↓if_neg, if_true, if_false, wrap_up, Int.toNat_natCast, Nat.zero_add]
    rfl
  · rw [e36_l6]
    try simp only [Int.toNat_natCast, Nat.zero_add]
    simp (disch := first | omega | assumption | (rw [decide_eq_true_eq]; omega) | (rw [decide_eq_false_iff_not]; omega)) only [↓if_pos, ↓if_neg, if_true, if_false, wrap_up, Int.toNat_natCast, Nat.zero_add]
  · rw [e36_j6]
    rfl
  · rw [e36_l8]
    try simp only [Int.toNat_natCast, Nat.zero_add]
    simp (disch := first | omega | assumption | (rw [decide_eq_true_eq]; omega) | (rw [decide_eq_false_iff_not]; omega)) only [↓if_pos, ↓if_neg, if_true, if_false, wrap_up, Int.toNat_natCast, Nat.zero_add]
  · rw [e36_j8]
    try simp only [Int.toNat_natCast, Nat.zero_add]
    simp (disch := first | omega | assumption | (rw [decide_eq_true_eq]; omega) | (rw [decide_eq_false_iff_not]; omega)) only [↓if_pos, ↓if_neg, if_true, if_false, wrap_up, Int.toNat_natCast, Nat.zero_add]
    rfl
  · rw [e36_j5, wrap_nat (n := i + 1) (by omega) (by omega)]
  · refine (map_set_same (d := (Func.mk ByteArray.empty false [] 0 [])) ?_).trans p2
    exact Prod.ext rfl (wrI_sk rfl)
theorem Spoil.l2 {k : Nat} (hok : okF (G0.getD k (Func.mk ByteArray.empty false [] 0 []))) (hk : k < G0.length) (b : Nat) (G : List Ev.Func) (hb : b < (G0.getD k (Func.mk ByteArray.empty false [] 0 [])).blocks.length) (hG : PF G0 G) :
    ∃ G', PF G0 G' ∧ Goes C36 U36 (R36 m) k36_l2 (s36_l2 m k b E A T G) k36_l2 (s36_l2 m k (b + 1 : Nat) E A T G') := by
  have h7 := hok.2.1
  obtain ⟨G1, p1, g1⟩ := Goes.shape (fun i G => s36_l4 m k b k b i E A T G) _ (PF G0) (fun i G hi hG => Spoil.l4 (m := m) (E := E) (A := A) (T := T) hok hk hb i G hi hG) _ 0 G (Nat.zero_add _) hG
  have S := shF hG k
  have S1 := shF p1 k
  have a0 := S.len
  have a1 := S.blk
  have a2 := S1.ins b
  refine ⟨G1, p1, Goes.trans (k' := k36_l4) (s' := s36_l4 m k b k b (0 : Nat) E A T G) (.step fun J => ?_) (g1.trans (Goes.trans (k' := k36_j4) (s' := s36_j4 m k b E A T G1) (.step fun J => ?_) (Goes.trans (.step fun J => e36_j4 ..) (.step fun J => ?_))))⟩
  · rw [e36_l2]
    try simp only [Int.toNat_natCast, Nat.zero_add]
    simp (disch := first | omega | assumption | (rw [decide_eq_true_eq]; omega) | (rw [decide_eq_false_iff_not]; omega)) only [↓if_pos, ↓if_neg, if_true, if_false, wrap_up, Int.toNat_natCast, Nat.zero_add]
    rfl
  · rw [e36_l4]
    try simp only [Int.toNat_natCast, Nat.zero_add]
    simp (disch := first | omega | assumption | (rw [decide_eq_true_eq]; omega) | (rw [decide_eq_false_iff_not]; omega)) only [↓if_pos, ↓if_neg, if_true, if_false, wrap_up, Int.toNat_natCast, Nat.zero_add]
  · rw [e36_j3, wrap_nat (n := b + 1) (by omega) (by omega)]
theorem Spoil.l10 {k : Nat} (hok : okF (G0.getD k (Func.mk ByteArray.empty false [] 0 []))) (hk : k < G0.length) (j : Nat) (G : List Ev.Func) (hj : j < (G0.getD k (Func.mk ByteArray.empty false [] 0 [])).params.length) (hG : PF G0 G) :
    ∃ G', PF G0 G' ∧ Goes C36 U36 (R36 m) k36_l10 (s36_l10 m k j E A T G) k36_l10 (s36_l10 m k (j + 1 : Nat) E A T G') := by
  have h7 := hok.1
  have S := shF hG k
  have a0 := S.len
  have a1 := S.par
  refine ⟨?wW, ?pP, .step fun J => ?rR⟩
  rotate_left 2
  · rw [e36_l10]
    try simp only [Int.toNat_natCast, Nat.zero_add]
    simp (disch := first | omega | assumption | (rw [decide_eq_true_eq]; omega) | (rw [decide_eq_false_iff_not]; omega)) only [↓if_pos, ↓if_neg, if_true, if_false, wrap_up, Int.toNat_natCast, Nat.zero_add]
    rfl
  · refine (map_set_same (d := (Func.mk ByteArray.empty false [] 0 [])) ?_).trans hG
    exact Prod.ext (by simp [skF]) rfl
theorem Spoil.l0 (hok : ∀ f, f ∈ G0 → okF f) (hl : G0.length ≤ 1000) (k : Nat) (G : List Ev.Func) (hk : k < G0.length) (hG : PF G0 G) :
    ∃ G', PF G0 G' ∧ Goes C36 U36 (R36 m) k36_l0 (s36_l0 m k E A T G) k36_l0 (s36_l0 m (k + 1 : Nat) E A T G') := by
  have hf := hok _ (getD_mem (d := (Func.mk ByteArray.empty false [] 0 [])) hk)
  obtain ⟨G1, p1, g1⟩ := Goes.shape (fun b G => s36_l2 m k b E A T G) _ (PF G0) (fun b G hb hG => Spoil.l2 (m := m) (E := E) (A := A) (T := T) hf hk b G hb hG) _ 0 G (Nat.zero_add _) hG
  obtain ⟨G2, p2, g2⟩ := Goes.shape (fun j G => s36_l10 m k j E A T G) _ (PF G0) (fun j G hj hG => Spoil.l10 (m := m) (E := E) (A := A) (T := T) hf hk j G hj hG) _ 0 G1 (Nat.zero_add _) p1
  have a0 := (shF hG k).len
  have a1 := (shF p1 k).len
  have a2 := (shF p2 k).len
  have a3 := (shF p1 k).blk
  have a4 := (shF p2 k).par
  refine ⟨G2, p2, Goes.trans (k' := k36_l2) (s' := s36_l2 m k (0 : Nat) E A T G) (.step fun J => ?_) (g1.trans (Goes.trans (k' := k36_j2) (s' := s36_j2 m k E A T G1) (.step fun J => ?_) (Goes.trans (k' := k36_l10) (s' := s36_l10 m k (0 : Nat) E A T G1) (.step fun J => ?_) (g2.trans (Goes.trans (k' := k36_j10) (s' := s36_j10 m k E A T G2) (.step fun J => ?_) (Goes.trans (.step fun J => e36_j10 ..) (.step fun J => ?_)))))))⟩
  · rw [e36_l0]
    simp (disch := first | omega | assumption | (rw [decide_eq_true_eq]; omega) | (rw [decide_eq_false_iff_not]; omega)) only [↓if_pos, ↓if_neg, if_true, if_false, wrap_up, Int.toNat_natCast, Nat.zero_add]
    rfl
  · rw [e36_l2]
    try simp only [Int.toNat_natCast, Nat.zero_add]
    simp (disch := first | omega | assumption | (rw [decide_eq_true_eq]; omega) | (rw [decide_eq_false_iff_not]; omega)) only [↓if_pos, ↓if_neg, if_true, if_false, wrap_up, Int.toNat_natCast, Nat.zero_add]
  · rw [e36_j2]
    rfl
  · rw [e36_l10]
    try simp only [Int.toNat_natCast, Nat.zero_add]
    simp (disch := first | omega | assumption | (rw [decide_eq_true_eq]; omega) | (rw [decide_eq_false_iff_not]; omega)) only [↓if_pos, ↓if_neg, if_true, if_false, wrap_up, Int.toNat_natCast, Nat.zero_add]
  · rw [e36_j1, wrap_nat (n := k + 1) (by omega) (by omega)]
variable {G : List Ev.Func}
theorem Spoil.l14 {X0 : List Ev.Table} {k : Nat} (hle : (X0.getD k (Table.mk ByteArray.empty [])).funcs.length ≤ 1000) (hk : k < X0.length) (j : Nat) (X : List Ev.Table) (hj : j < (X0.getD k (Table.mk ByteArray.empty [])).funcs.length) (hX : X.map (fun x => x.funcs.length) = X0.map (fun x => x.funcs.length)) :
    ∃ X', X'.map (fun x => x.funcs.length) = X0.map (fun x => x.funcs.length) ∧ Goes C36 U36 (R36 m) k36_l14 (s36_l14 m k j E A X G) k36_l14 (s36_l14 m k (j + 1 : Nat) E A X' G) := by
  have a0 := map_len hX
  have a1 := map_at hX k (Table.mk ByteArray.empty [])
  refine ⟨?wW, ?pP, .step fun J => ?rR⟩
  rotate_left 2
  · rw [e36_l14]
    try simp only [Int.toNat_natCast, Nat.zero_add] at a1 ⊢
    simp (disch := first | omega | assumption | (rw [decide_eq_true_eq]; omega) | (rw [decide_eq_false_iff_not]; omega)) only [↓if_pos, ↓if_neg, if_true, if_false, wrap_up, Int.toNat_natCast, Nat.zero_add]
    rfl
  · exact (map_set_same (d := (Table.mk ByteArray.empty [])) (by simp)).trans hX
theorem Spoil.l12 {X0 : List Ev.Table} (hle : ∀ x, x ∈ X0 → x.funcs.length ≤ 1000) (hl : X0.length ≤ 1000) (k : Nat) (X : List Ev.Table) (hk : k < X0.length) (hX : X.map (fun x => x.funcs.length) = X0.map (fun x => x.funcs.length)) :
    ∃ X', X'.map (fun x => x.funcs.length) = X0.map (fun x => x.funcs.length) ∧ Goes C36 U36 (R36 m) k36_l12 (s36_l12 m k E A X G) k36_l12 (s36_l12 m (k + 1 : Nat) E A X' G) := by
  obtain ⟨X1, p1, g1⟩ := Goes.shape (fun j X => s36_l14 m k j E A X G) _ _ (fun j X hj hX => Spoil.l14 (m := m) (E := E) (A := A) (G := G) (hle _ (getD_mem (d := (Table.mk ByteArray.empty [])) hk)) hk j X hj hX) _ 0 X (Nat.zero_add _) hX
  have a0 := map_len hX
  have a1 := map_len p1
  have a2 := map_at p1 k (Table.mk ByteArray.empty [])
  try simp only at a2
  refine ⟨X1, p1, Goes.trans (k' := k36_l14) (s' := s36_l14 m k (0 : Nat) E A X G) (.step fun J => ?_) (g1.trans (Goes.trans (k' := k36_j14) (s' := s36_j14 m k E A X1 G) (.step fun J => ?_) (Goes.trans (.step fun J => e36_j14 ..) (.step fun J => ?_))))⟩
  · rw [e36_l12]
    simp (disch := first | omega | assumption | (rw [decide_eq_true_eq]; omega) | (rw [decide_eq_false_iff_not]; omega)) only [↓if_pos, ↓if_neg, if_true, if_false, wrap_up, Int.toNat_natCast, Nat.zero_add]
    rfl
  · rw [e36_l14]
    try simp only [Int.toNat_natCast, Nat.zero_add]
    simp (disch := first | omega | assumption | (rw [decide_eq_true_eq]; omega) | (rw [decide_eq_false_iff_not]; omega)) only [↓if_pos, ↓if_neg, if_true, if_false, wrap_up, Int.toNat_natCast, Nat.zero_add]
  · rw [e36_j13, wrap_nat (n := k + 1) (by omega) (by omega)]
theorem Spoil.l18 {X0 : List Ev.Global} {k : Nat} (hle : (X0.getD k (Global.mk ByteArray.empty [])).cells.length ≤ 1000) (hk : k < X0.length) (j : Nat) (X : List Ev.Global) (hj : j < (X0.getD k (Global.mk ByteArray.empty [])).cells.length) (hX : X.map (fun x => x.cells.length) = X0.map (fun x => x.cells.length)) :
    ∃ X', X'.map (fun x => x.cells.length) = X0.map (fun x => x.cells.length) ∧ Goes C36 U36 (R36 m) k36_l18 (s36_l18 m k j E X T G) k36_l18 (s36_l18 m k (j + 1 : Nat) E X' T G) := by
  have a0 := map_len hX
  have a1 := map_at hX k (Global.mk ByteArray.empty [])
  refine ⟨?wW, ?pP, .step fun J => ?rR⟩
  rotate_left 2
  · rw [e36_l18]
    try simp only [Int.toNat_natCast, Nat.zero_add] at a1 ⊢
    simp (disch := first | omega | assumption | (rw [decide_eq_true_eq]; omega) | (rw [decide_eq_false_iff_not]; omega)) only [↓if_pos, ↓if_neg, if_true, if_false, wrap_up, Int.toNat_natCast, Nat.zero_add]
    rfl
  · exact (map_set_same (d := (Global.mk ByteArray.empty [])) (by simp)).trans hX
theorem Spoil.l16 {X0 : List Ev.Global} (hle : ∀ x, x ∈ X0 → x.cells.length ≤ 1000) (hl : X0.length ≤ 1000) (k : Nat) (X : List Ev.Global) (hk : k < X0.length) (hX : X.map (fun x => x.cells.length) = X0.map (fun x => x.cells.length)) :
    ∃ X', X'.map (fun x => x.cells.length) = X0.map (fun x => x.cells.length) ∧ Goes C36 U36 (R36 m) k36_l16 (s36_l16 m k E X T G) k36_l16 (s36_l16 m (k + 1 : Nat) E X' T G) := by
  obtain ⟨X1, p1, g1⟩ := Goes.shape (fun j X => s36_l18 m k j E X T G) _ _ (fun j X hj hX => Spoil.l18 (m := m) (E := E) (T := T) (G := G) (hle _ (getD_mem (d := (Global.mk ByteArray.empty [])) hk)) hk j X hj hX) _ 0 X (Nat.zero_add _) hX
  have a0 := map_len hX
  have a1 := map_len p1
  have a2 := map_at p1 k (Global.mk ByteArray.empty [])
  try simp only at a2
  refine ⟨X1, p1, Goes.trans (k' := k36_l18) (s' := s36_l18 m k (0 : Nat) E X T G) (.step fun J => ?_) (g1.trans (Goes.trans (k' := k36_j18) (s' := s36_j18 m k E X1 T G) (.step fun J => ?_) (Goes.trans (.step fun J => e36_j18 ..) (.step fun J => ?_))))⟩
  · rw [e36_l16]
    simp (disch := first | omega | assumption | (rw [decide_eq_true_eq]; omega) | (rw [decide_eq_false_iff_not]; omega)) only [↓if_pos, ↓if_neg, if_true, if_false, wrap_up, Int.toNat_natCast, Nat.zero_add]
    rfl
  · rw [e36_l18]
    try simp only [Int.toNat_natCast, Nat.zero_add]
    simp (disch := first | omega | assumption | (rw [decide_eq_true_eq]; omega) | (rw [decide_eq_false_iff_not]; omega)) only [↓if_pos, ↓if_neg, if_true, if_false, wrap_up, Int.toNat_natCast, Nat.zero_add]
  · rw [e36_j17, wrap_nat (n := k + 1) (by omega) (by omega)]
theorem Spoil.l22 {X0 : List Ev.Extern} {k : Nat} (hle : (X0.getD k (Extern.mk ByteArray.empty [] 0)).params.length ≤ 1000) (hk : k < X0.length) (j : Nat) (X : List Ev.Extern) (hj : j < (X0.getD k (Extern.mk ByteArray.empty [] 0)).params.length) (hX : X.map (fun x => x.params.length) = X0.map (fun x => x.params.length)) :
    ∃ X', X'.map (fun x => x.params.length) = X0.map (fun x => x.params.length) ∧ Goes C36 U36 (R36 m) k36_l22 (s36_l22 m k j X A T G) k36_l22 (s36_l22 m k (j + 1 : Nat) X' A T G) := by
  have a0 := map_len hX
  have a1 := map_at hX k (Extern.mk ByteArray.empty [] 0)
  refine ⟨?wW, ?pP, .step fun J => ?rR⟩
  rotate_left 2
  · rw [e36_l22]
    try simp only [Int.toNat_natCast, Nat.zero_add] at a1 ⊢
    simp (disch := first | omega | assumption | (rw [decide_eq_true_eq]; omega) | (rw [decide_eq_false_iff_not]; omega)) only [↓if_pos, ↓if_neg, if_true, if_false, wrap_up, Int.toNat_natCast, Nat.zero_add]
    rfl
  · exact (map_set_same (d := (Extern.mk ByteArray.empty [] 0)) (by simp)).trans hX
theorem Spoil.l20 {X0 : List Ev.Extern} (hle : ∀ x, x ∈ X0 → x.params.length ≤ 1000) (hl : X0.length ≤ 1000) (k : Nat) (X : List Ev.Extern) (hk : k < X0.length) (hX : X.map (fun x => x.params.length) = X0.map (fun x => x.params.length)) :
    ∃ X', X'.map (fun x => x.params.length) = X0.map (fun x => x.params.length) ∧ Goes C36 U36 (R36 m) k36_l20 (s36_l20 m k X A T G) k36_l20 (s36_l20 m (k + 1 : Nat) X' A T G) := by
  obtain ⟨X1, p1, g1⟩ := Goes.shape (fun j X => s36_l22 m k j X A T G) _ _ (fun j X hj hX => Spoil.l22 (m := m) (A := A) (T := T) (G := G) (hle _ (getD_mem (d := (Extern.mk ByteArray.empty [] 0)) hk)) hk j X hj hX) _ 0 X (Nat.zero_add _) hX
  have a0 := map_len hX
  have a1 := map_len p1
  have a2 := map_at p1 k (Extern.mk ByteArray.empty [] 0)
  try simp only at a2
  refine ⟨X1, p1, Goes.trans (k' := k36_l22) (s' := s36_l22 m k (0 : Nat) X A T G) (.step fun J => ?_) (g1.trans (Goes.trans (k' := k36_j22) (s' := s36_j22 m k X1 A T G) (.step fun J => ?_) (Goes.trans (.step fun J => e36_j22 ..) (.step fun J => ?_))))⟩
  · rw [e36_l20]
    simp (disch := first | omega | assumption | (rw [decide_eq_true_eq]; omega) | (rw [decide_eq_false_iff_not]; omega)) only [↓if_pos, ↓if_neg, if_true, if_false, wrap_up, Int.toNat_natCast, Nat.zero_add]
    rfl
  · rw [e36_l22]
    try simp only [Int.toNat_natCast, Nat.zero_add]
    simp (disch := first | omega | assumption | (rw [decide_eq_true_eq]; omega) | (rw [decide_eq_false_iff_not]; omega)) only [↓if_pos, ↓if_neg, if_true, if_false, wrap_up, Int.toNat_natCast, Nat.zero_add]
  · rw [e36_j21, wrap_nat (n := k + 1) (by omega) (by omega)]
end
theorem spoil_ok (m : Ev.Module) (h : okM m) : CallOk tb Try.prog 36 (a36 m) (.tup []) [.dead] := by
  obtain ⟨⟨a1, a2, a3, a4⟩, h1, h2, h3, h4⟩ := h
  obtain ⟨G, p1, g1⟩ := Goes.shape (fun k G => s36_l0 m k m.externs m.globals m.tables G) _ (PF m.funcs) (fun k G hk hG => Spoil.l0 (m := m) (E := m.externs) (A := m.globals) (T := m.tables) h4 a4 k G hk hG) _ 0 m.funcs (Nat.zero_add _) rfl
  obtain ⟨T, p2, g2⟩ := Goes.shape (fun k T => s36_l12 m k m.externs m.globals T G) _ _ (fun k X hk hX => Spoil.l12 (m := m) (E := m.externs) (A := m.globals) (G := G) h3 a3 k X hk hX) _ 0 m.tables (Nat.zero_add _) rfl
  obtain ⟨A, p3, g3⟩ := Goes.shape (fun k A => s36_l16 m k m.externs A T G) _ _ (fun k X hk hX => Spoil.l16 (m := m) (E := m.externs) (T := T) (G := G) h2 a2 k X hk hX) _ 0 m.globals (Nat.zero_add _) rfl
  obtain ⟨E, p4, g4⟩ := Goes.shape (fun k E => s36_l20 m k E A T G) _ _ (fun k X hk hX => Spoil.l20 (m := m) (A := A) (T := T) (G := G) h1 a1 k X hk hX) _ 0 m.externs (Nat.zero_add _) rfl
  have b1 := map_len p1
  have b2 := map_len p2
  have b3 := map_len p3
  have b4 := map_len p4
  refine fn36 m (Goes.ends (k' := k36_l0) (s' := s36_l0 m (0 : Nat) m.externs m.globals m.tables m.funcs) (.step fun J => by rw [e36]; rfl) (g1.ends ?_))
  refine Goes.ends (k' := k36_j0) (s' := s36_j0 m m.externs m.globals m.tables G) (.step fun J => ?_) (Goes.ends (k' := k36_l12) (s' := s36_l12 m (0 : Nat) m.externs m.globals m.tables G) (.step fun J => by rw [e36_j0]; rfl) (g2.ends ?_))
  · rw [e36_l0]; simp (disch := first | omega | assumption | (rw [decide_eq_true_eq]; omega) | (rw [decide_eq_false_iff_not]; omega)) only [↓if_pos, ↓if_neg, if_true, if_false, wrap_up, Int.toNat_natCast, Nat.zero_add]
  refine Goes.ends (k' := k36_j12) (s' := s36_j12 m m.externs m.globals T G) (.step fun J => ?_) (Goes.ends (k' := k36_l16) (s' := s36_l16 m (0 : Nat) m.externs m.globals T G) (.step fun J => by rw [e36_j12]; rfl) (g3.ends ?_))
  · rw [e36_l12]; simp (disch := first | omega | assumption | (rw [decide_eq_true_eq]; omega) | (rw [decide_eq_false_iff_not]; omega)) only [↓if_pos, ↓if_neg, if_true, if_false, wrap_up, Int.toNat_natCast, Nat.zero_add]
  refine Goes.ends (k' := k36_j16) (s' := s36_j16 m m.externs A T G) (.step fun J => ?_) (Goes.ends (k' := k36_l20) (s' := s36_l20 m (0 : Nat) m.externs A T G) (.step fun J => by rw [e36_j16]; rfl) (g4.ends ?_))
  · rw [e36_l16]; simp (disch := first | omega | assumption | (rw [decide_eq_true_eq]; omega) | (rw [decide_eq_false_iff_not]; omega)) only [↓if_pos, ↓if_neg, if_true, if_false, wrap_up, Int.toNat_natCast, Nat.zero_add]
  refine Goes.ends (k' := k36_j20) (s' := s36_j20 m) (.step fun J => ?_) (.step fun J => e36_j20 ..)
  rw [e36_l20]
  simp (disch := first | omega | assumption | (rw [decide_eq_true_eq]; omega) | (rw [decide_eq_false_iff_not]; omega)) only [↓if_pos, ↓if_neg, if_true, if_false, wrap_up, Int.toNat_natCast, Nat.zero_add]
def S36 : List (AV Ty) → T (AV Ty × List (AV Ty))
  | [.agg [.sl true 91 e, .sl true 94 g, .sl true 96 t, .sl true 33 f]] => .ite (okM ⟨e, g, t, f⟩) (okM.dec _) (.ret (.tup [], [.dead])) .fail
  | _ => .fail
theorem S36_ok (l : List (AV Ty)) (r : AV Ty) (outs : List (AV Ty)) (h : (S36 l).val = some (r, outs)) : CallOk tb Try.prog 36 l r outs := by
  unfold S36 at h
  split at h
  · rename_i e g t f
    rcases ite_val h with ⟨h1, h⟩ | ⟨_, h⟩
    · cases h
      exact spoil_ok ⟨e, g, t, f⟩ h1
    · cases h
  · cases h
end Go.Proofs.Ytggibjbcbicpjaa.Ev
