/- The evaluator's operations that leave memory alone: the machine does the same. -/
import Derived.Test.YtnibdgjlbhdmfaaEvH
namespace Go.Proofs.Ytnibdgjlbhdmfaa.Ev
open Go
set_option linter.unusedVariables false
set_option linter.unusedSimpArgs false
section
variable {Ty : Nat → Type} {E : Tb Ty}
variable {F : Set2} {w : World} {hp : Heap Ty} {vals : Nat → Value} {sets : Nat → Set2} {P : Program} {ρ : Operand → Value}
/-- A row of cells, each as told. -/
def CRep (E : Tb Ty) (F : Set2) (w : World) (hp : Heap Ty) (vals : Nat → Value) (vs : List Value) (cs : List (AV Ty)) : Prop :=
  vs.length = cs.length ∧ ∀ (i : Nat) v a, vs[i]? = some v → cs[i]? = some a → VRep E F w hp vals v a
theorem cellsOf_ok (G : Good E) (H : HRel E F w hp vals sets) {v : Value} {a : AV Ty} {ds : List (AV Ty)} (hv : VRep E F w hp vals v a) (h : cellsOfA a = some ds) : CRep E F w hp vals v.cells.toList ds := by
  have one : ∀ v a, VRep E F w hp vals v a → v.cells = #[v] → CRep E F w hp vals v.cells.toList [a] := by
    intro v a hv hc
    rw [hc]
    refine ⟨rfl, fun i v' a' e1 e2 => ?_⟩
    cases i with
    | zero => cases e1; cases e2; exact hv
    | succ i => simp at e1
  unfold cellsOfA at h
  split at h
  · cases h
    obtain ⟨vs, rfl, h1, h2⟩ := hv.agg'
    exact ⟨by simpa [Value.cells] using h1, fun i v a e1 e2 => h2 i v a (by simpa [Value.cells] using e1) e2⟩
  · split at h
    · cases h
      rename_i x hx
      have e := hv.v
      subst e
      exact one _ _ hv (by cases v <;> simp [oneC] at hx <;> rfl)
    · cases h
  · cases h
    rename_i b t xs
    refine one _ _ hv ?_
    cases hv with
    | rep _ _ h => cases h <;> rfl
  · cases h
    rename_i r p vw f
    obtain ⟨R, u, row, h1, h2, h3⟩ := hv.ref'
    refine one _ _ hv ?_
    cases vw with
    | none =>
      obtain ⟨rfl, _⟩ := h3
      rcases own_shape G H h1 h2 with ⟨A, rfl, _⟩ | ⟨b, off, c, rfl, _⟩ <;> rfl
    | some ok => obtain ⟨o, k⟩ := ok; rcases h3 with ⟨_, ⟨_, A, rfl⟩ | ⟨b, off, c, c', _, rfl, _⟩⟩ <;> rfl
  · cases h
    obtain ⟨R, b, off, c, row, h1, h2, h3, rfl⟩ := hv.ptr'
    exact one _ _ hv rfl
  · cases h
    refine one _ _ hv ?_
    have := hv.rp
    cases this
    rfl
  · cases h
theorem foldl_cells : ∀ (l : List Value) (k off : Nat) (cs : Array Value), off + k + l.length ≤ cs.size →
    ((l.zipIdx k).foldl (fun cs (c, j) => cs.setIfInBounds (off + j) c) cs).toList = cs.toList.take (off + k) ++ l ++ cs.toList.drop (off + k + l.length)
  | [], k, off, cs, h => by simp
  | v :: l, k, off, cs, h => by
    simp only [List.zipIdx_cons, List.foldl_cons, List.length_cons] at h ⊢
    rw [foldl_cells l (k + 1) off _ (by simp; omega)]
    have hk : off + k < cs.toList.length := by simp; omega
    simp only [Array.toList_setIfInBounds]
    rw [show off + (k + 1) = off + k + 1 by omega, List.take_succ_eq_append_getElem (by simpa using hk)]
    simp only [List.getElem_set_self, List.append_assoc, List.singleton_append]
    congr 1
    · rw [List.take_set_of_le (by omega)]
    · rw [List.drop_set_of_lt (by omega)]
      rw [show off + k + 1 + l.length = off + k + (l.length + 1) by omega]
theorem fill_ok (K : TbOk E P) (G : Good E) (H : HRel E F w hp vals sets) {fr : List (Nat × AV Ty)} (hρ : ∀ x, VRep E F w hp vals (ρ x) (opA fr x)) {fs : List (Nat × Nat)} {place : Nat → Option (Nat × Nat)}
    (hp' : ∀ (i : Nat) off t ti, fs[i]? = some (off, t) → E.ti t = some ti → place i = some (off, ti.sz)) :
    ∀ (l : List (Nat × Operand)) (ps : List (Nat × Nat × AV Ty)) (cells : Array Value) (cs cs' : List (AV Ty)), placesA E fs fr l = some ps → CRep E F w hp vals cells.toList cs → fillA cs ps = some cs' →
      ∃ cells', Instr.fill place cells (l.map fun (i, x) => (i, ρ x)) = some cells' ∧ CRep E F w hp vals cells'.toList cs' ∧ cs'.length = cs.length
  | [], ps, cells, cs, cs', h1, h2, h3 => by cases h1; cases h3; exact ⟨cells, rfl, h2, rfl⟩
  | (i, x) :: l, ps, cells, cs, cs', h1, h2, h3 => by
    unfold placesA at h1
    split at h1
    · rename_i off t e1
      split at h1
      · rename_i ti e2
        split at h1
        · rename_i r e3
          cases h1
          unfold fillA at h3
          split at h3
          · rename_i ds e4
            split at h3
            · rename_i e5
              rw [Bool.and_eq_true] at e5
              have z1 := Nat.eq_of_beq_eq_true e5.1
              have z2 := Nat.le_of_ble_eq_true e5.2
              obtain ⟨c1, c2⟩ := cellsOf_ok G H (hρ x) e4
              obtain ⟨d1, d2⟩ := h2
              have hsz : (ρ x).cells.size = ds.length := by simpa using c1
              have hcs : cells.size = cs.length := by simpa using d1
              have hf := foldl_cells (ρ x).cells.toList 0 off cells (by simp [hsz, hcs]; omega)
              obtain ⟨cells', k1, k2, k3⟩ := fill_ok K G H hρ hp' l r (((ρ x).cells.zipIdx.foldl (fun cs (c, j) => cs.setIfInBounds (off + j) c) cells)) _ cs' e3 (by
                have hz : (((ρ x).cells.zipIdx.foldl (fun cs (c, j) => cs.setIfInBounds (off + j) c) cells)).toList = cells.toList.take off ++ (ρ x).cells.toList ++ cells.toList.drop (off + ds.length) := by
                  rw [← Array.foldl_toList]
                  rw [Array.toList_zipIdx]
                  rw [hf]
                  simp [hsz]
                rw [hz]
                refine ⟨by simp [hsz, hcs], fun k v a q1 q2 => ?_⟩
                rw [List.append_assoc] at q1 q2
                by_cases g1 : k < off
                · rw [List.getElem?_append_left (by simp; omega)] at q1
                  rw [List.getElem?_append_left (by simp; omega)] at q2
                  rw [List.getElem?_take, if_pos g1] at q1 q2
                  exact d2 k v a q1 q2
                · rw [List.getElem?_append_right (by simp; omega)] at q1
                  rw [List.getElem?_append_right (by simp; omega)] at q2
                  have t1 : (cells.toList.take off).length = off := by simp; omega
                  have t2 : (cs.take off).length = off := by simp; omega
                  rw [t1] at q1
                  rw [t2] at q2
                  by_cases g2 : k - off < ds.length
                  · rw [List.getElem?_append_left (by simp; omega)] at q1
                    rw [List.getElem?_append_left (by omega)] at q2
                    exact c2 _ v a q1 q2
                  · rw [List.getElem?_append_right (by simp; omega)] at q1
                    rw [List.getElem?_append_right (by omega)] at q2
                    simp only [List.getElem?_drop, Array.length_toList, hsz] at q1 q2
                    exact d2 _ v a q1 q2) h3
              refine ⟨cells', ?_, k2, by rw [k3]; simp; omega⟩
              simp only [List.map_cons, Instr.fill]
              rw [hp' i off t ti e1 e2]
              simp only
              rw [if_neg (by simp [hsz, hcs, z1]; omega)]
              exact k1
            · cases h3
          · cases h3
        · cases h1
      · cases h1
    · cases h1
theorem mapM_places : ∀ (gs : List Field) (acc : List (Nat × Nat)), (∀ f ∈ gs, ∃ j, P.info? f.type = some j) → ∃ ps : List (Nat × Nat),
    ((List.mapM.loop (fun (f : Field) => ((sizeOf f.type).bind fun n => Sem.pure (f.offset, n))) gs acc : Sem (List (Nat × Nat)))).run P w = .ok (acc.reverse ++ ps) w ∧ ps.length = gs.length ∧
      ∀ (i : Nat) f j, gs[i]? = some f → P.info? f.type = some j → ps[i]? = some (f.offset, j.size)
  | [], acc, h => ⟨[], by simp [List.mapM.loop, Pure.pure, Sem.run], rfl, fun i f j e => by simp at e⟩
  | f :: gs, acc, h => by
    obtain ⟨j, hj⟩ := h f (by simp)
    obtain ⟨ps, h1, h2, h3⟩ := mapM_places gs ((f.offset, j.size) :: acc) (fun f' hf => h f' (by simp [hf]))
    refine ⟨(f.offset, j.size) :: ps, ?_, by simp [h2], fun i f' j' e1 e2 => ?_⟩
    · unfold List.mapM.loop
      simp only [Bind.bind]
      have : ((sizeOf f.type).bind fun n => Sem.pure (f.offset, n)).run P w = .ok (f.offset, j.size) w := by
        rw [run_sizeOf hj]; rfl
      refine (Sem.run_bind (P := P) (w := w) ((sizeOf f.type).bind fun n => Sem.pure (f.offset, n)) _).trans ?_
      rw [this]
      simp only [Result.andThen]
      rw [h1]
      simp
    · cases i with
      | zero => simp at e1; subst e1; rw [hj] at e2; cases e2; rfl
      | succ i => simp at e1 ⊢; exact h3 i f' j' e1 e2
theorem zero_rep (K : TbOk E P) (G : Good E) {t : Nat} {i : TI} (hi : E.ti t = some i) (hh : E.has t = true) : ∃ j z, P.info? t = some j ∧ j.zero = some z ∧ CRep E F w hp vals z.cells.toList (((E.cod t).enc false (E.cod t).zero).map nilZ) := by
  obtain ⟨h1, j, z, h2, h3, h4, h5⟩ := K.zero t i hi hh
  refine ⟨j, z, h2, h3, by rw [List.length_map, G.len, h1]; simpa using h4, fun o v a e1 e2 => ?_⟩
  rw [List.getElem?_map, Option.map_eq_some_iff] at e2
  obtain ⟨a, e2, rfl⟩ := e2
  obtain ⟨v', e3, h⟩ := h5 false o a e2
  have : v = v' := by simp only [Array.getElem?_toList] at e1; exact Option.some.inj (e1.symm.trans e3)
  subst this
  rcases h with ⟨rfl, _⟩ | ⟨q, t', rfl, rfl⟩
  · exact .rep _ _ (.v _)
  · exact .rep _ _ (.v _)
theorem build_ok (K : TbOk E P) (G : Good E) (H : HRel E F w hp vals sets) {fr : List (Nat × AV Ty)} (hρ : ∀ x, VRep E F w hp vals (ρ x) (opA fr x)) {t : Nat} {i : TI} {fs : List (Nat × Nat)} (hi : E.ti t = some i) (hd : i.d = .struct fs) (hh : E.has t = true)
    {parts : Array (Nat × Operand)} {ps : List (Nat × Nat × AV Ty)} {cs : List (AV Ty)} (h1 : placesA E fs fr parts.toList = some ps) (h2 : fillA (((E.cod t).enc false (E.cod t).zero).map nilZ) ps = some cs) (o : Oper) (ho : o.op = .build t parts) :
    ∃ v, (execOp ρ o).run P w = .ok (.value v) w ∧ VRep E F w hp vals v (.agg cs) := by
  obtain ⟨dd, _, ty, pos, af, gd⟩ := o
  subst ho
  obtain ⟨j, z, k1, k2, k3⟩ := zero_rep (F := F) (w := w) (hp := hp) (vals := vals) K G hi hh
  obtain ⟨d, g1, g2⟩ := K.und t i hi
  rw [hd] at g2
  obtain ⟨gs, rfl, g3, g4⟩ := DOk.struct g2
  have hinfo : ∀ f ∈ gs.toList, ∃ j, P.info? f.type = some j := by
    intro f hf
    obtain ⟨i, hi1, hi2⟩ := List.getElem_of_mem hf
    have hlt : i < fs.length := by rw [← g3]; simpa using hi1
    obtain ⟨f', q1, q2, q3, z, ⟨j, q4, _⟩, _⟩ := g4 i fs[i] (List.getElem?_eq_getElem hlt)
    have : f = f' := by
      rw [Array.getElem?_eq_getElem (by simpa using hi1)] at q1
      simp only [Array.getElem_toList] at hi2
      exact hi2.symm.trans (Option.some.inj q1)
    subst this
    exact ⟨j, q3 ▸ q4⟩
  obtain ⟨pl, m1, m2, m3⟩ := mapM_places (P := P) (w := w) gs.toList [] hinfo
  obtain ⟨cells', f1, f2, f3⟩ := fill_ok (P := P) (place := (pl.toArray[·]?)) K G H hρ (fs := fs) (fun i off t' ti e1 e2 => by
    obtain ⟨f', q1, q2, q3, z, ⟨j, q4, q5⟩, _⟩ := g4 i _ e1
    obtain ⟨j', q6, q7, _⟩ := K.info _ _ e2
    simp only at q2 q3 q4
    have : j = j' := Option.some.inj (q4.symm.trans q6)
    subst this
    have := m3 i f' j (by simpa using q1) (q3 ▸ q4)
    rw [q2, q7] at this
    simpa using this) parts.toList ps z.cells _ cs h1 k3 h2
  refine ⟨.agg cells', okB rfl ?_, .agg _ _ (by simpa using f2.1) (fun i v a e1 e2 => f2.2 i v a (by simpa using e1) e2)⟩
  unfold Instr.build
  simp only [zeroValue, typeInfo, program, Bind.bind, Sem.bind, Sem.run, k1, k2, Pure.pure]
  rw [run_underlying g1]
  simp only
  rw [Array.mapM_eq_mapM_toList]
  have hm : (gs.toList.mapM (fun (f : Field) => ((sizeOf f.type).bind fun n => Sem.pure (f.offset, n))) : Sem (List (Nat × Nat))).run P w = .ok pl w := by
    exact m1
  have hmap : (List.toArray <$> (gs.toList.mapM (fun (f : Field) => ((sizeOf f.type).bind fun n => Sem.pure (f.offset, n))) : Sem (List (Nat × Nat)))).run P w = .ok pl.toArray w := by
    refine (Sem.run_bind (P := P) (w := w) (gs.toList.mapM (fun (f : Field) => ((sizeOf f.type).bind fun n => Sem.pure (f.offset, n))) : Sem (List (Nat × Nat))) (fun l => Sem.pure l.toArray)).trans ?_
    rw [hm]
    rfl
  refine (Sem.run_bind (P := P) (w := w) _ _).trans ?_
  rw [hmap]
  simp only [Result.andThen, Array.toList_map]
  rw [f1]
  rfl
end
end Go.Proofs.Ytnibdgjlbhdmfaa.Ev
