/- An instruction in its place. -/
import Derived.Test.YtggibjbcbicpjaaIrE
namespace Go.Proofs.Ytggibjbcbicpjaa.Ev
open Go
set_option linter.unusedVariables false
set_option linter.unusedSimpArgs false
def rdI (l : List Ev.Block) (b k : Nat) : Ev.Ins := (l.getD b (Block.mk [])).ins.getD k (Ins.mk 0 0 0 0 0 [] [])
def wrI (l : List Ev.Block) (b k : Nat) (x : Ev.Ins) : List Ev.Block := l.set b (Block.mk ((l.getD b (Block.mk [])).ins.set k x))
def inI (l : List Ev.Block) (b k : Nat) : Prop := b < l.length ∧ k < (l.getD b (Block.mk [])).ins.length
theorem wrI_len {l : List Ev.Block} {b k : Nat} {x : Ev.Ins} : (wrI l b k x).length = l.length := by simp [wrI]
theorem wrI_blk {l : List Ev.Block} {b k : Nat} {x : Ev.Ins} (h : b < l.length) (c : Nat) : ((wrI l b k x).getD c (Block.mk [])).ins = if c = b then (l.getD b (Block.mk [])).ins.set k x else (l.getD c (Block.mk [])).ins := by
  simp only [wrI, List.getD_eq_getElem?_getD, List.getElem?_set]
  by_cases e : c = b
  · subst e
    rw [if_pos rfl, if_pos h, if_pos rfl]
    rfl
  · rw [if_neg (fun h => e h.symm), if_neg e]
theorem wrI_ilen {l : List Ev.Block} {b k : Nat} {x : Ev.Ins} (h : b < l.length) (c : Nat) : ((wrI l b k x).getD c (Block.mk [])).ins.length = (l.getD c (Block.mk [])).ins.length := by
  rw [wrI_blk h]
  split
  · rename_i e; subst e; rw [List.length_set]
  · rfl
theorem rd_wr {l : List Ev.Block} {b k : Nat} {x : Ev.Ins} (h : inI l b k) : rdI (wrI l b k x) b k = x := by
  unfold rdI
  rw [wrI_blk h.1, if_pos rfl, List.getD_eq_getElem?_getD, List.getElem?_set_self h.2]
  rfl
theorem rd_wr_ne {l : List Ev.Block} {b k : Nat} {x : Ev.Ins} (h : b < l.length) {c j : Nat} (hn : ¬ (c = b ∧ j = k)) : rdI (wrI l b k x) c j = rdI l c j := by
  unfold rdI
  rw [wrI_blk h]
  split
  · rename_i e
    subst e
    rw [List.getD_eq_getElem?_getD, List.getElem?_set_ne (fun e => hn ⟨rfl, e.symm⟩), ← List.getD_eq_getElem?_getD]
  · rfl
theorem wr_wr {l : List Ev.Block} {b k : Nat} {x y : Ev.Ins} (h : b < l.length) : wrI (wrI l b k x) b k y = wrI l b k y := by
  show (wrI l b k x).set b (Block.mk (((wrI l b k x).getD b (Block.mk [])).ins.set k y)) = _
  rw [wrI_blk h, if_pos rfl, List.set_set]
  unfold wrI
  rw [List.set_set]
theorem inI_wr {l : List Ev.Block} {b k : Nat} {x : Ev.Ins} (h : b < l.length) {c j : Nat} : inI (wrI l b k x) c j ↔ inI l c j := by
  unfold inI
  rw [wrI_len, wrI_ilen h]
end Go.Proofs.Ytggibjbcbicpjaa.Ev
