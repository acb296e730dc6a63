/- Operations that make memory or write it: alloc, box, store. -/
import Derived.Test.YtnibdgjlbhdmfaaEvM
namespace Go.Proofs.Ytnibdgjlbhdmfaa.Ev
open Go
set_option linter.unusedVariables false
set_option linter.unusedSimpArgs false
section
variable {Ty : Nat → Type} (E : Tb Ty)
def anyOwn : List (AV Ty) → Bool
  | [] => false
  | .sl true _ _ :: _ => true
  | _ :: l => anyOwn l
def setCells (m : Bool) (t : Nat) (xs : List (Ty t)) (i o : Nat) (cs : List (AV Ty)) : Option (List (Ty t)) :=
  match (E.cod t).dec m (((E.cod t).enc m (xs.getD i (E.cod t).zero)).take o ++ cs ++ ((E.cod t).enc m (xs.getD i (E.cod t).zero)).drop (o + cs.length)) with
  | some x => some (xs.set i x)
  | none => none
abbrev EffR (Ty : Nat → Type) := AV Ty × Heap Ty × List (Nat × Nat)
def allocT (m : Bool) (hp : Heap Ty) (t : Nat) : T (EffR Ty) := match E.ti t, E.has t with
  | some _, true => .ret (.ptr hp.length [] 0 0, hp ++ [some ⟨t, m, [(E.cod t).zero]⟩], [])
  | _, _ => .fail
def boxT (m : Bool) (hp : Heap Ty) (t : Nat) (a : AV Ty) : T (EffR Ty) := match E.ti t, E.has t with
  | some i, true => match cellsOfA a with
    | some ds => match Nat.beq ds.length i.sz with
      | true => match toCells m hp ((E.cod t).enc m (E.cod t).zero) ds with
        | some (cs, hp1, ks) => match (E.cod t).dec m cs with
          | some x => .ret (.ptr hp1.length [] 0 0, hp1 ++ [some ⟨t, m, [x]⟩], ks)
          | none => .fail
        | none => .fail
      | false => .fail
    | none => .fail
  | _, _ => .fail
def storeT (hp : Heap Ty) (i : TI) (addr a : AV Ty) : T (EffR Ty) := match addr with
  | .ptr r p k o => match root hp r with
    | some R => match nav E R.m R.t R.xs p with
      | some row => match cellsOfA a with
        | some ds => match Nat.beq ds.length i.sz && Nat.ble (o + ds.length) (szOf E row.t) with
          | true => match toCells R.m hp (((E.cod row.t).enc R.m (row.xs.getD k (E.cod row.t).zero)).drop o) ds with
            | some (cs, hp1, ks) => match root hp1 r with
              | some _ => match upd E R.m R.t R.xs p (fun t xs => setCells E R.m t xs k o cs) with
                | some xs' => .ret (.dead, hp1.set r (some ⟨R.t, R.m, xs'⟩), match anyOwn cs || anyOwn ((((E.cod row.t).enc R.m (row.xs.getD k (E.cod row.t).zero)).drop o).take cs.length) with
                  | true => (r, p.length + 1) :: ks
                  | false => ks)
                | none => .fail
              | none => .fail
            | none => .fail
          | false => .fail
        | none => .fail
      | none => .fail
    | none => .fail
  | _ => .fail
variable {E}
variable {X : Set2} {W0 : World} {F F' : Set2} {w w' : World} {hp hp' : Heap Ty} {vals vals' : Nat → Value} {sets sets' : Nat → Set2} {P : Program} {ρ : Operand → Value}
variable (E) in
structure Inv (X : Set2) (W0 : World) (F : Set2) (w : World) (hp : Heap Ty) (vals : Nat → Value) (sets : Nat → Set2) : Prop where
  H : HRel E F w hp vals sets
  fb : ∀ b j, F b j → b < w.heap.size
  lim : ∀ r R b j, root hp r = some R → sets r b j → X b j ∨ W0.heap.size ≤ b
  keep : Keep X W0 w
theorem Inv.lt (I : Inv E X W0 F w hp vals sets) {r : Nat} {R : Root Ty} (h : root hp r = some R) {b j : Nat} (hs : sets r b j) : b < w.heap.size := by
  obtain ⟨⟨u, hu⟩, _⟩ := (I.H.own r R h).free b j hs
  exact cell_lt hu
/-- What survives a step. -/
theorem survive {ks : List (Nat × Nat)} (hF : ∀ b j, F b j → F' b j ∧ w'.cell? ⟨b, j, none⟩ = w.cell? ⟨b, j, none⟩)
    (hr : ∀ r R p, root hp r = some R → hit ks r p = false → ∃ R', root hp' r = some R' ∧ ∀ u row, Loc E w R.m (vals r) R.t R.xs p u row → ∃ xs', Loc E w' R'.m (vals' r) R'.t R'.xs p u ⟨row.t, xs'⟩ ∧ xs'.length = row.xs.length)
    {v : Value} {a : AV Ty} (h : VRep E F w hp vals v a) : VRep E F' w' hp' vals' v (killA ks a) := by
  refine VRep.kill (fun v a h => h.stable hF) (fun v r p vw f hh h => ?_) (fun v r p i o hh h => ?_) h
  · obtain ⟨R, u, row, h1, h2, h3⟩ := h.ref'
    obtain ⟨R', h4, h5⟩ := hr r R p h1 hh
    obtain ⟨xs', h6, h8⟩ := h5 u row h2
    exact .ref r p vw f v R' u ⟨row.t, xs'⟩ h4 h6 (by rw [h8]; exact h3)
  · obtain ⟨R, b, off, c, row, h1, h2, h3, rfl⟩ := h.ptr'
    obtain ⟨R', h4, h5⟩ := hr r R p h1 hh
    obtain ⟨xs', h6, h8⟩ := h5 _ row h2
    exact .ptr r p i o R' b off c ⟨row.t, xs'⟩ h4 (by rw [h8]; exact h6) (by rw [h8]; exact h3)
/-- A root that is left alone survives. -/
theorem survive_root (G : Good E) (H : HRel E F w hp vals sets) {r : Nat} {R : Root Ty} {p : Path} (h : root hp r = some R) (h' : root hp' r = some R) (hv : vals' r = vals r) (hs : ∀ b j, sets r b j → w'.cell? ⟨b, j, none⟩ = w.cell? ⟨b, j, none⟩) :
    ∃ R', root hp' r = some R' ∧ ∀ u row, Loc E w R.m (vals r) R.t R.xs p u row → ∃ xs', Loc E w' R'.m (vals' r) R'.t R'.xs p u ⟨row.t, xs'⟩ ∧ xs'.length = row.xs.length :=
  ⟨R, h', fun u row hl => ⟨row.xs, by rw [hv]; exact hl.stable (H.own r R h) G hs, rfl⟩⟩
theorem root_push {hp : Heap Ty} {r : Nat} {x : Root Ty} : root (hp ++ [some x]) r = if r = hp.length then some x else root hp r := by
  unfold root
  by_cases h : r < hp.length
  · rw [List.getElem?_append_left h, if_neg (by omega)]
  · rw [List.getElem?_append_right (by omega)]
    by_cases e : r = hp.length
    · subst e; simp
    · rw [if_neg e, List.getElem?_eq_none (by simp; omega), List.getElem?_eq_none (by omega)]
/-- A new root, in a new block. -/
theorem push_ok (G : Good E) (I : Inv E X W0 F w hp vals sets) {F1 : Set2} {hp1 : Heap Ty} {ks : List (Nat × Nat)} (L : Less F F1 sets hp hp1 ks) (H1 : HRel E F1 w hp1 vals sets) {o : Obj} {R : Root Ty} {v : Value} {S : Set2}
    (hO : Own E F1 (w.alloc o) R.m v R.t R.xs S) (hS : ∀ b j, S b j → b = w.heap.size ∨ ∃ r R, root hp r = some R ∧ root hp1 r = none ∧ sets r b j) :
    Inv E X W0 F1 (w.alloc o) (hp1 ++ [some R]) (fun r => if r = hp1.length then v else vals r) (fun r => if r = hp1.length then S else sets r) ∧
    ∀ u a, VRep E F w hp vals u a → VRep E F1 (w.alloc o) (hp1 ++ [some R]) (fun r => if r = hp1.length then v else vals r) u (killA ks a) := by
  have F1b : ∀ b j, F1 b j → b < w.heap.size := by
    intro b j h
    rcases L.fro b j h with h | ⟨r, R', h1, _, h2⟩
    · exact I.fb _ _ h
    · exact I.lt h1 h2
  have slt : ∀ r R' b j, root hp1 r = some R' → sets r b j → b < w.heap.size := fun r R' b j h1 h2 => I.lt (L.sub _ _ h1) h2
  refine ⟨⟨⟨fun r R' h => ?_, fun r r' R1 R2 h1 h2 b j s1 s2 => ?_⟩, fun b j h => ?_, fun r R' b j h s => ?_, I.keep.alloc o⟩, fun u a h => ?_⟩
  · rw [root_push] at h
    split at h
    · rename_i e
      subst e
      cases h
      simpa using hO
    · rename_i e
      simp only [if_neg e]
      refine (H1.own r R' h).stable G (fun b j h => ⟨h, cell_alloc_old (F1b _ _ h)⟩) (fun b j s => ⟨cell_alloc_old (slt _ _ _ _ h s), frozen_alloc_old (slt _ _ _ _ h s)⟩) (fun b j _ h => h)
  · rw [root_push] at h1 h2
    have sep : ∀ r R', root hp1 r = some R' → ∀ b j, S b j → sets r b j → False := by
      intro r R' h b j s1 s2
      rcases hS b j s1 with h' | ⟨r', R'', q1, q2, q3⟩
      · have := slt _ _ _ _ h s2; omega
      · have := I.H.dj _ _ _ _ q1 (L.sub _ _ h) b j q3 s2
        subst this
        rw [q2] at h; cases h
    by_cases e1 : r = hp1.length <;> by_cases e2 : r' = hp1.length
    · rw [e1, e2]
    · simp only [if_pos e1] at s1; simp only [if_neg e2] at s2 h2; exact (sep _ _ h2 _ _ s1 s2).elim
    · simp only [if_neg e1] at s1 h1; simp only [if_pos e2] at s2; exact (sep _ _ h1 _ _ s2 s1).elim
    · simp only [if_neg e1] at s1 h1; simp only [if_neg e2] at s2 h2; exact H1.dj _ _ _ _ h1 h2 b j s1 s2
  · rw [World.size_alloc]; have := F1b _ _ h; omega
  · rw [root_push] at h
    by_cases e : r = hp1.length
    · simp only [if_pos e] at s
      rcases hS b j s with h' | ⟨r', R'', q1, q2, q3⟩
      · right; have := I.keep.size; omega
      · exact I.lim _ _ _ _ q1 q3
    · simp only [if_neg e] at s h
      exact I.lim _ _ _ _ (L.sub _ _ h) s
  · refine survive (fun b j h => ⟨L.inc _ _ h, cell_alloc_old (I.fb _ _ h)⟩) (fun r R' p h1 h2 => ?_) h
    have hlt := root_lt h1
    have hne : r ≠ hp1.length := by rw [L.len]; omega
    rcases L.out _ _ h1 with h3 | ⟨_, h3⟩
    · exact survive_root (hp' := hp1 ++ [some R]) (vals' := fun r => if r = hp1.length then v else vals r) G I.H h1 (by rw [root_push, if_neg hne]; exact h3) (if_neg hne) (fun b j s => cell_alloc_old (I.lt h1 s))
    · exact absurd (hit_mem h2 h3) (by omega)
/-- What is frozen on the way. -/
def Grow (X : Set2) (W0 : World) (F F' : Set2) : Prop := (∀ b j, F b j → F' b j) ∧ ∀ b j, F' b j → F b j ∨ X b j ∨ W0.heap.size ≤ b
theorem Grow.refl (X : Set2) (W0 : World) (F : Set2) : Grow X W0 F F := ⟨fun _ _ h => h, fun _ _ h => .inl h⟩
theorem Grow.trans {F2 : Set2} (h : Grow X W0 F F') (k : Grow X W0 F' F2) : Grow X W0 F F2 := ⟨fun b j e => k.1 _ _ (h.1 _ _ e), fun b j e => (k.2 _ _ e).elim (h.2 _ _) .inr⟩
theorem Less.grow (I : Inv E X W0 F w hp vals sets) {hp1 : Heap Ty} {ks : List (Nat × Nat)} (L : Less F F' sets hp hp1 ks) : Grow X W0 F F' :=
  ⟨L.inc, fun b j h => by
    rcases L.fro b j h with h | ⟨r, R, h1, _, h2⟩
    · exact .inl h
    · exact .inr (I.lim _ _ _ _ h1 h2)⟩
variable (E) in
/-- What an appended row of a place inside a root is, until it is stored there. -/
def OvOk (X : Set2) (W0 : World) (F : Set2) (w : World) (hp : Heap Ty) (vals : Nat → Value) (sets : Nat → Set2) (v : Value) (r : Nat) (p : Path) (t : Nat) (xs : List (Ty t)) : Prop :=
  ∃ (R : Root Ty) (u : Value) (ys : List (Ty t)) (S' S1 : Set2), root hp r = some R ∧ Loc E w R.m (vals r) R.t R.xs p u ⟨t, ys⟩ ∧ Own E F w R.m u t ys S' ∧ (∀ b j, S' b j → sets r b j) ∧ Own E F w R.m v t xs S1 ∧
    ∀ b j, S1 b j → S' b j ∨ ((∀ q Q, root hp q = some Q → ¬ sets q b j) ∧ (X b j ∨ W0.heap.size ≤ b))
/-- What a step that makes or writes memory comes to. -/
def EffOk (E : Tb Ty) (P : Program) (ρ : Operand → Value) (o : Oper) (X : Set2) (W0 : World) (F : Set2) (w : World) (hp : Heap Ty) (vals : Nat → Value) (r : EffR Ty) : Prop :=
  ∃ nx v w' F' vals' sets', (execOp ρ o).run P w = .ok nx w' ∧ (nx = .value v ∨ (nx = .skip ∧ v = undef)) ∧ Inv E X W0 F' w' r.2.1 vals' sets' ∧ VRep E F' w' r.2.1 vals' v r.1 ∧
    (∀ u a, VRep E F w hp vals u a → VRep E F' w' r.2.1 vals' u (killA r.2.2 a)) ∧ (∀ j, j < hp.length → (j, 0) ∈ r.2.2 ∨ vals' j = vals j) ∧ Grow X W0 F F' ∧ ∀ r0 p t xs, r.1 = .ext r0 p t xs → OvOk E X W0 F' w' r.2.1 vals' sets' v r0 p t xs
theorem ptr_new {F : Set2} {w : World} {vals : Nat → Value} {t : Nat} {m : Bool} {x : Ty t} {b : Nat} {hp' : Heap Ty} {n : Nat} (h1 : root hp' n = some ⟨t, m, [x]⟩) (h2 : vals n = .slice (some ⟨b, 0, none⟩) 1 1) :
    VRep E F w hp' vals (.pointer (some ⟨b, 0, none⟩)) (.ptr n [] 0 0) := by
  have := VRep.ptr (E := E) (F := F) (w := w) (hp := hp') (vals := vals) n [] 0 0 ⟨t, m, [x]⟩ b 0 1 ⟨t, [x]⟩ h1 ⟨h2.symm, rfl⟩ (by simp)
  simpa using this
theorem cont_one (G : Good E) {m : Bool} {t : Nat} {x : Ty t} {vs : List Value} {cs : List (AV Ty)} {Bn : Nat → Set2} (h : Fresh E F w m vs cs Bn) (hx : (E.cod t).enc m x = cs) : Cont E F w m t [x] vs (fun i o => if i = 0 then Bn o else fun _ _ => False) := by
  have hl : vs.length = szOf E t := by rw [h.len, ← hx, G.len]
  refine ⟨by simp [hl], h.one, fun i y o a v e1 e2 e3 e4 => ?_, fun i y o t' ys v e1 e2 e3 => ?_, fun i o i' o' b j e1 e2 => ?_, fun i o b j e => ?_⟩
  · cases i with
    | zero =>
      cases e1
      rw [hx] at e2
      exact h.rep o v a (by simpa using e3) e2 e4
    | succ i => simp at e1
  · cases i with
    | zero =>
      cases e1
      rw [hx] at e2
      exact h.own o v t' ys (by simpa using e3) e2
    | succ i => simp at e1
  · by_cases h0 : i = 0
    · by_cases h1 : i' = 0
      · simp only [if_pos h0] at e1
        simp only [if_pos h1] at e2
        exact ⟨by omega, h.dj _ _ _ _ e1 e2⟩
      · simp only [if_neg h1] at e2
    · simp only [if_neg h0] at e1
  · by_cases h0 : i = 0
    · simp only [if_pos h0] at e
      obtain ⟨t', ys, h'⟩ := h.rg _ _ _ e
      subst h0
      exact ⟨x, t', ys, rfl, by rw [hx]; exact h'⟩
    · simp only [if_neg h0] at e
theorem cont_zero (K : TbOk E P) (G : Good E) {t : Nat} {i : TI} (hi : E.ti t = some i) (hh : E.has t = true) (m : Bool) (F : Set2) (w : World) : ∃ j z, P.info? t = some j ∧ j.zero = some z ∧ z.cells.size = szOf E t ∧ Cont E F w m t [(E.cod t).zero] z.cells.toList (fun _ _ _ _ => False) := by
  obtain ⟨h1, j, z, h2, h3, h4, h5⟩ := K.zero t i hi hh
  refine ⟨j, z, h2, h3, by rw [h1]; exact h4, ?_⟩
  have key : ∀ (o : Nat) a v, ((E.cod t).enc m (E.cod t).zero)[o]? = some a → z.cells.toList[o]? = some v → (a = .v v ∧ oneC v = true) ∨ ∃ q t', a = .sl q t' [] ∧ v = .slice none 0 0 := by
    intro o a v e1 e2
    obtain ⟨v', e3, h⟩ := h5 m o a e1
    have : v = v' := by simp only [Array.getElem?_toList] at e2; exact Option.some.inj (e2.symm.trans e3)
    subst this
    exact h
  refine ⟨by simp [h4, h1], fun v hv => ?_, fun i x o a v e1 e2 e3 e4 => ?_, fun i x o t' ys v e1 e2 e3 => ?_, fun _ _ _ _ _ _ h => h.elim, fun _ _ _ _ h => h.elim⟩
  · obtain ⟨o, ho⟩ := List.getElem?_of_mem hv
    have hlt : o < ((E.cod t).enc m (E.cod t).zero).length := by rw [G.len, h1, ← h4]; simpa using get_lt ho
    rcases key o _ v (List.getElem?_eq_getElem hlt) ho with ⟨_, h⟩ | ⟨q, t', _, h⟩
    · exact h
    · rw [h]; rfl
  · cases i with
    | zero =>
      cases e1
      rcases key o a v e2 (by simpa using e3) with ⟨rfl, _⟩ | ⟨q, t', rfl, rfl⟩
      · exact .v _
      · cases q
        · exact .nil _ _ _
        · exact absurd trivial e4
    | succ i => simp at e1
  · cases i with
    | zero =>
      cases e1
      rcases key o _ v e2 (by simpa using e3) with ⟨h, _⟩ | ⟨q, t'', h, rfl⟩
      · cases h
      · cases h
        exact .nil _ _ _ (fun _ _ h => h)
    | succ i => simp at e1
theorem alloc_eff (K : TbOk E P) (G : Good E) (I : Inv E X W0 F w hp vals sets) {m : Bool} {t : Nat} {r : EffR Ty} (h : (allocT E m hp t).val = some r) (o : Oper) (ho : o.op = .alloc t) : EffOk E P ρ o X W0 F w hp vals r := by
  unfold allocT at h
  split at h
  · rename_i i hi hh
    cases h
    obtain ⟨j, z, h2, h3, h4, hC⟩ := cont_zero K G hi hh m F w
    have hO := alloc_own (T := t) (c := 1) (cells := z.cells) G hC (by rw [h4, Nat.one_mul]) (by simp) (fun k v e => by simpa using e) I.fb
    obtain ⟨I', hs⟩ := push_ok G I (Less.refl F sets hp) I.H (R := ⟨t, m, [(E.cod t).zero]⟩) hO (fun b j h => by
      rcases h with h | ⟨_, _, h⟩
      · exact .inl h.1
      · exact h.elim)
    refine ⟨_, _, _, F, _, _, ?_, .inl rfl, I', ptr_new (t := t) (m := m) (x := (E.cod t).zero) (b := w.heap.size) (by rw [root_push, if_pos rfl]) (if_pos rfl), hs, fun j hj => .inr (if_neg (Nat.ne_of_lt hj)), Grow.refl _ _ _, fun _ _ _ _ e => by cases e⟩
    refine okB (s := Instr.alloc t true (.tuple #[])) (by unfold execOp; rw [ho]) ?_
    simp [Instr.alloc, zeroValue, typeInfo, program, Bind.bind, Sem.bind, Sem.run, Pure.pure, h2, h3, newVar, newRow, newObj]
  · cases h
theorem box_eff (K : TbOk E P) (G : Good E) (I : Inv E X W0 F w hp vals sets) {m : Bool} {t : Nat} {x : Operand} {a : AV Ty} (hx : VRep E F w hp vals (ρ x) a) {r : EffR Ty} (h : (boxT E m hp t a).val = some r) (o : Oper) (ho : o.op = .box t x) : EffOk E P ρ o X W0 F w hp vals r := by
  unfold boxT at h
  split at h
  · rename_i i hi hh
    split at h
    · rename_i ds hd
      split at h
      · rename_i hz
        split at h
        · rename_i cs hp1 ks hc
          split at h
          · rename_i x' hx'
            cases h
            have hds := cellsOf_ok G I.H hx hd
            obtain ⟨F1, Bn, H1, L, f, l, bn⟩ := toCells_ok G ds _ F hp hp1 ks cs _ I.H (fun _ _ h => h) (fun _ _ h => h) hds hc
            have F1b : ∀ b j, F1 b j → b < w.heap.size := by
              intro b j h
              rcases L.fro b j h with h | ⟨r, R', h1, _, h2⟩
              · exact I.fb _ _ h
              · exact I.lt h1 h2
            have henc := G.dec _ _ _ _ hx'
            have hC := cont_one G f henc
            have hsz : (ρ x).cells.size = 1 * szOf E t := by
              have := f.len
              rw [← henc, G.len] at this
              simpa using this
            have hO := alloc_own (T := t) (c := 1) (cells := (ρ x).cells) G hC hsz (by simp) (fun k v e => by simpa using e) F1b
            obtain ⟨I', hs⟩ := push_ok G I L H1 (R := ⟨t, m, [x']⟩) hO (fun b j h => by
              rcases h with h | ⟨i, q, h⟩
              · exact .inl h.1
              · by_cases h0 : i = 0
                · simp only [if_pos h0] at h
                  exact .inr (bn _ _ _ h).2
                · simp only [if_neg h0] at h)
            refine ⟨_, _, _, F1, _, _, ?_, .inl rfl, I', ptr_new (t := t) (m := m) (x := x') (b := w.heap.size) (by rw [root_push, if_pos rfl]) (if_pos rfl), hs, fun j hj => .inr (if_neg (by rw [L.len]; exact Nat.ne_of_lt hj)), L.grow I, fun _ _ _ _ e => by cases e⟩
            refine okB (s := Instr.box t (ρ x)) (by unfold execOp; rw [ho]) ?_
            simp [Instr.box, Bind.bind, Sem.bind, Sem.run, Pure.pure, newVar, newRow, newObj]
          · cases h
        · cases h
      · cases h
    · cases h
  · cases h
theorem setCells_inv (G : Good E) {m : Bool} {t : Nat} {xs xs' : List (Ty t)} {i o : Nat} {x : Ty t} {cs : List (AV Ty)} (h1 : xs[i]? = some x) (h : setCells E m t xs i o cs = some xs') :
    ∃ x', xs' = xs.set i x' ∧ (E.cod t).enc m x' = ((E.cod t).enc m x).take o ++ cs ++ ((E.cod t).enc m x).drop (o + cs.length) := by
  unfold setCells at h
  rw [getD_of h1] at h
  split at h
  · rename_i x' e
    exact ⟨x', (Option.some.inj h).symm, G.dec _ _ _ _ e⟩
  · cases h
theorem anyOwn_false {l : List (AV Ty)} (h : anyOwn l = false) : ∀ (k : Nat) t ys, l[k]? ≠ some (AV.sl true t ys) := by
  induction l with
  | nil => intro k t ys e; simp at e
  | cons a l ih =>
    intro k t ys e
    cases k with
    | zero =>
      simp at e
      subst e
      cases h
    | succ k =>
      refine ih ?_ k t ys (by simpa using e)
      cases a <;> first | exact h | skip
      rename_i q _ _
      cases q
      · exact h
      · cases h
theorem Loc.cells (G : Good E) {m : Bool} : ∀ {p : Path} {v : Value} {t : Nat} {xs : List (Ty t)} {row : Row Ty} {S : Set2} {b off c : Nat}, Own E F w m v t xs S → Loc E w m v t xs p (.slice (some ⟨b, off, none⟩) row.xs.length c) row → ∀ j, j < c * szOf E row.t → S b (off + j)
  | [], v, t, xs, row, S, b, off, c, ho, ⟨h1, h2⟩, j, hj => by
    subst h2
    rcases ho.inv with ⟨⟨A, e⟩, _, _⟩ | ⟨b0, off0, c0, g, B, hv0, R⟩
    · rw [e] at h1
      injection h1 with _ _ h1
      subst h1
      simp at hj
    · rw [hv0] at h1
      injection h1 with e1 e2 e3
      injection e1 with e1
      injection e1 with e1 e4
      subst e1 e4 e3
      exact R.mem hj
  | (i, o) :: p, v, t, xs, row, S, b, off, c, ho, ⟨b1, off1, c1, x, t', ys, v', h1, h2, h3, h4, h5⟩, j, hj => by
    rcases ho.inv with ⟨_, hnil, _⟩ | ⟨b0, off0, c0, g, B, hv0, R⟩
    · rw [hnil] at h2; simp at h2
    · rw [h1] at hv0
      injection hv0 with e1 e2 e3
      injection e1 with e1
      injection e1 with e1 e4
      subst e1 e4 e3
      have hg : g i o = v' := Option.some.inj ((R.cell i x o _ h2 h3).symm.trans h4)
      have hsub := R.own i x o t' ys h2 h3
      rw [hg] at hsub
      exact R.sub (Loc.cells G hsub h5 j hj)
/-- A row at path p is changed: a path that leads through no changed row cell leads where it led. -/
theorem Loc.upd (G : Good E) {m : Bool} {f : (t : Nat) → List (Ty t) → Option (List (Ty t))} {C : Set2} : ∀ (p : Path) {v : Value} {t : Nat} {xs : List (Ty t)} {u : Value} {row : Row Ty} {S : Set2} {xs' : List (Ty t)} {ys' : List (Ty row.t)},
    Own E F w m v t xs S → Loc E w m v t xs p u row → (∀ b j, C b j → ∃ off c, u = .slice (some ⟨b, off, none⟩) row.xs.length c ∧ off ≤ j ∧ j < off + c * szOf E row.t) →
    (∀ b j, S b j → ¬ C b j → w'.cell? ⟨b, j, none⟩ = w.cell? ⟨b, j, none⟩) → Ev.upd E m t xs p f = some xs' → f row.t row.xs = some ys' → ys'.length = row.xs.length →
    ∀ (q : Path) {u2 : Value} {row2 : Row Ty}, Loc E w m v t xs q u2 row2 →
      (q.length ≤ p.length ∨ ∀ (i2 o2 : Nat) x2 t2 (zs : List (Ty t2)), row.xs[i2]? = some x2 → ((E.cod row.t).enc m x2)[o2]? = some (AV.sl true t2 zs) →
        ∃ x3, ys'[i2]? = some x3 ∧ ((E.cod row.t).enc m x3)[o2]? = some (AV.sl true t2 zs) ∧ ∀ b off c, u = .slice (some ⟨b, off, none⟩) row.xs.length c → ¬ C b (off + (i2 * szOf E row.t + o2))) →
      ∃ zs', Loc E w' m v t xs' q u2 ⟨row2.t, zs'⟩ ∧ zs'.length = row2.xs.length
  | [], v, t, xs, u, row, S, xs', ys', ho, ⟨hu, hr⟩, hC, hA, hup, hf, hl, q, u2, row2, hq, hend => by
    subst hu hr
    have e : ys' = xs' := Option.some.inj (hf.symm.trans hup)
    subst e
    cases q with
    | nil =>
      obtain ⟨rfl, rfl⟩ := hq
      exact ⟨ys', ⟨rfl, rfl⟩, hl⟩
    | cons s q' =>
      obtain ⟨i2, o2⟩ := s
      obtain ⟨b, off, c, x2, t2, zs, v2, h1, h2, h3, h4, h5⟩ := hq
      rcases hend with h | hend
      · simp at h
      · obtain ⟨x3, k1, k2, k3⟩ := hend i2 o2 x2 t2 zs h2 h3
        rcases ho.inv with ⟨_, hnil, _⟩ | ⟨b0, off0, c0, g, B, hv0, R⟩
        · rw [hnil] at h2; simp at h2
        · rw [h1] at hv0
          injection hv0 with e1 e2 e3
          injection e1 with e1
          injection e1 with e1 e4
          subst e1 e4 e3
          have hg : g i2 o2 = v2 := Option.some.inj ((R.cell i2 x2 o2 _ h2 h3).symm.trans h4)
          have hsub := R.own i2 x2 o2 t2 zs h2 h3
          rw [hg] at hsub
          refine ⟨row2.xs, ⟨b, off, c, x3, t2, zs, v2, by rw [h1, hl], k1, k2, ?_, ?_⟩, rfl⟩
          · exact (hA _ _ (R.mem (G.lt R.le h2 h3)) (k3 b off c h1)).trans h4
          · refine h5.stable hsub G (fun b' j' h => hA _ _ (R.sub h) (fun hc => ?_))
            obtain ⟨off', c', e1, e2, e3⟩ := hC _ _ hc
            rw [h1] at e1
            injection e1 with e1 _ e4
            injection e1 with e1
            injection e1 with e1 e5
            subst e1 e5 e4
            have := R.dr i2 o2 (j' - off) (by simp only at e3; omega)
            rw [show off + (j' - off) = j' by omega] at this
            exact this h
  | (i, o) :: p, v, t, xs, u, row, S, xs', ys', ho, ⟨b, off, c, x, t', ys, v', h1, h2, h3, h4, h5⟩, hC, hA, hup, hf, hl, q, u2, row2, hq, hend => by
    unfold Ev.upd at hup
    rw [cellOf_of h2 h3] at hup
    simp only at hup
    split at hup
    · rename_i ys1 e1
      obtain ⟨x', hxs, hx'⟩ := setCell_inv G h2 hup
      subst hxs
      have hi := get_lt h2
      have hoo := get_lt h3
      cases q with
      | nil =>
        obtain ⟨rfl, rfl⟩ := hq
        exact ⟨_, ⟨rfl, rfl⟩, List.length_set⟩
      | cons s q' =>
        obtain ⟨i2, o2⟩ := s
        obtain ⟨b2, off2, c2, x2, t2, zs, v2, g1, g2, g3, g4, g5⟩ := hq
        rcases ho.inv with ⟨_, hnil, _⟩ | ⟨b0, off0, c0, g, B, hv0, R⟩
        · rw [hnil] at h2; simp at h2
        · rw [h1] at hv0 g1
          injection hv0 with z1 z2 z3
          injection z1 with z1
          injection z1 with z1 z4
          subst z1 z4 z3
          injection g1 with z1 z2 z3
          injection z1 with z1
          injection z1 with z1 z4
          subst z1 z4 z3
          have hg : g i o = v' := Option.some.inj ((R.cell i x o _ h2 h3).symm.trans h4)
          have hsub := R.own i x o t' ys h2 h3
          rw [hg] at hsub
          have hCB : ∀ b' j', C b' j' → B i o b' j' := by
            intro b' j' hc
            obtain ⟨off', c', e1, e2, e3⟩ := hC _ _ hc
            rw [e1] at h5
            have := Loc.cells G hsub h5 (j' - off') (by omega)
            rwa [show off' + (j' - off') = j' by omega] at this
          have hrowC : ∀ j, j < c * szOf E t → ¬ C b (off + j) := fun j hj hc => R.dr i o j hj (hCB _ _ hc)
          by_cases e : i2 = i ∧ o2 = o
          · obtain ⟨rfl, rfl⟩ := e
            rw [h2] at g2
            cases g2
            rw [h3] at g3
            cases g3
            rw [h4] at g4
            cases g4
            obtain ⟨zs', k1, k2⟩ := Loc.upd G p hsub h5 hC (fun b' j' hs hc => hA _ _ (R.sub hs) hc) e1 hf hl q' g5 (by
              rcases hend with h | h
              · exact .inl (by simpa using h)
              · exact .inr h)
            refine ⟨zs', ⟨b, off, c, x', t', ys1, v', by rw [h1, List.length_set], ?_, ?_, ?_, k1⟩, k2⟩
            · rw [List.getElem?_set, if_pos rfl, if_pos hi]
            · rw [hx', List.getElem?_set, if_pos rfl, if_pos hoo]
            · have hj := G.lt R.le h2 h3
              exact (hA _ _ (R.mem hj) (hrowC _ hj)).trans h4
          · have hg2 : g i2 o2 = v2 := Option.some.inj ((R.cell i2 x2 o2 _ g2 g3).symm.trans g4)
            have hsub2 := R.own i2 x2 o2 t2 zs g2 g3
            rw [hg2] at hsub2
            have hst := g5.stable hsub2 G (fun b' j' h => hA _ _ (R.sub h) (fun hc => e (R.dj _ _ _ _ _ _ h (hCB _ _ hc))))
            have hj := G.lt R.le g2 g3
            have hcell := (hA _ _ (R.mem hj) (hrowC _ hj)).trans g4
            by_cases ei : i2 = i
            · subst ei
              rw [h2] at g2
              cases g2
              refine ⟨row2.xs, ⟨b, off, c, x', t2, zs, v2, by rw [h1, List.length_set], ?_, ?_, hcell, hst⟩, rfl⟩
              · rw [List.getElem?_set, if_pos rfl, if_pos hi]
              · rw [hx', List.getElem?_set, if_neg (fun h => e ⟨rfl, h.symm⟩)]
                exact g3
            · refine ⟨row2.xs, ⟨b, off, c, x2, t2, zs, v2, by rw [h1, List.length_set], ?_, g3, hcell, hst⟩, rfl⟩
              rw [List.getElem?_set, if_neg (fun h => ei h.symm)]
              exact g2
    · cases hup
end
end Go.Proofs.Ytnibdgjlbhdmfaa.Ev
