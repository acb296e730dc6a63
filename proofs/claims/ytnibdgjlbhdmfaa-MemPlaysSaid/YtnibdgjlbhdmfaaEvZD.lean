/- Regions whose operations may come in several orders: what is asked of them; one order stands for all. -/
import Derived.Test.YtnibdgjlbhdmfaaEvZC
namespace Go.Proofs.Ytnibdgjlbhdmfaa.Ev
open Go
set_option linter.unusedVariables false
set_option linter.unusedSimpArgs false
section
variable {Ty : Nat → Type} (E : Tb Ty) (C : Cfg Ty)
def memO (t : Nat) : List Operand → Bool
  | [] => false
  | .tmp t' :: l => match Nat.beq t t' with
    | true => true
    | false => memO t l
  | _ :: l => memO t l
/-- The slots that an operation looks at. -/
def restF (op : Op) : List (Nat × AV Ty) → List (Nat × AV Ty)
  | [] => []
  | (t, a) :: l => match memO t op.operands.toList with
    | true => (t, a) :: restF op l
    | false => restF op l
/-- What an operation waits for. -/
def preds (o : Oper) : List Nat := (o.after.toList.filter (Region.binds .any)).map (·.on)
def anc (tb : List (Nat × List Nat)) : Nat → List Nat := fun i => match tb with
  | [] => []
  | (j, l) :: tb => match Nat.beq i j with
    | true => l
    | false => anc tb i
def ancs (ops : Array Oper) : List Nat → List (Nat × List Nat) → List (Nat × List Nat)
  | [], tb => tb
  | i :: l, tb => match ops[i]? with
    | some o => ancs ops l ((i, (preds o).foldl (fun acc p => (anc tb p).foldl addR (addR acc p)) []) :: tb)
    | none => tb
def touch0 (ks : List (Nat × Nat)) : AV Ty → Bool
  | .ref r p _ _ => hit ks r p
  | .ptr r p _ _ => hit ks r p
  | .ext _ _ _ _ => true
  | .agg _ => true
  | .tup _ => true
  | _ => false
def touch1 (ks : List (Nat × Nat)) : AV Ty → Bool
  | .agg cs => cs.any (touch0 ks)
  | a => touch0 ks a
/-- Does a value lead into what is gone? -/
def touch (ks : List (Nat × Nat)) : AV Ty → Bool
  | .tup cs => cs.any (touch1 ks)
  | a => touch1 ks a
/-- The roots of it, whole. -/
def zeroK (ks : List (Nat × Nat)) : List (Nat × Nat) := ks.map fun k => (k.1, 0)
/-- What is gone was looked at by nothing that may come later. -/
def farO (tb : List (Nat × List Nat)) (acc : List (Nat × Bool × List (AV Ty))) (i : Nat) : List (Nat × Nat) → Bool
  | [] => true
  | ks => acc.all fun x => hasN x.1 (anc tb i) || x.2.2.all fun a => !touch ks a && (x.2.1 || !touch (zeroK ks) a)
def goD (tb : List (Nat × List Nat)) (acc : List (Nat × Bool × List (AV Ty))) (i : Nat) (o : Oper) (ln : List (Nat × AV Ty)) (s : St Ty) : T (St Ty) := (opT E C ⟨restF o.op s.fr, s.hp⟩ o.dst o.op).bind fun r => match okK C r.2.2 && Nat.ble C.nf r.2.1.length && okX C o r.2.2 s.fr && farO tb acc i r.2.2 with
  | true => .ret ⟨putF o.dst r.1 (killF r.2.2 (ln ++ s.fr)), r.2.1⟩
  | false => .fail
def oneD (ops : Array Oper) (tb : List (Nat × List Nat)) (acc : List (Nat × Bool × List (AV Ty))) (i : Nat) (o : Oper) (s : St Ty) : T (St Ty) := match okD C o.dst with
  | true => match o.guard with
    | none => goD E C tb acc i o [] s
    | some (g, want) => match (ops[g]?).bind (·.dst) with
      | some t => match look s.fr t with
        | .v (.bool b) => .ite (b = want) inferInstance (goD E C tb acc i o [(t, .v (.bool want))] s) (.ret (skipS o ⟨(t, .v (.bool (!want))) :: s.fr, s.hp⟩))
        | a => match isU a with
          | true => .ret (skipS o s)
          | false => .fail
      | none => .fail
  | false => .fail
/-- Memory is not even looked at. -/
def still (o : Oper) : Bool := match o.op with
  | .move _ => true
  | .assign _ => true
  | .pick _ _ _ => true
  | .binOp _ _ _ _ _ => true
  | .unOp _ _ _ => true
  | .convert _ _ _ => true
  | .extract _ _ => true
  | .nilCheck _ => true
  | .fieldAddr _ _ _ => true
  | .build _ _ => true
  | .index _ _ _ => true
  | _ => false
def valsO (o : Oper) (s : St Ty) : List (AV Ty) := (restF o.op s.fr).map (·.2)
def opsD (ops : Array Oper) (tb : List (Nat × List Nat)) : List Nat → List (Nat × Bool × List (AV Ty)) → St Ty → T (St Ty)
  | [], _, s => .ret s
  | i :: l, acc, s => match ops[i]? with
    | some o => (oneD E C ops tb acc i o s).bind (opsD ops tb l ((i, still o, valsO o s) :: acc))
    | none => .fail
def free (oi oj : Oper) (ops : Array Oper) : Bool := Nat.beq (kindO C oi) 1 && ((!Nat.beq (kindO C oj) 3 || still oi) && oi.apart ops oj)
def pairs (ops : Array Oper) (tb : List (Nat × List Nat)) : List Nat → Bool
  | [] => true
  | i :: l => l.all (fun j => hasN i (anc tb j) || match ops[i]?, ops[j]? with
      | some oi, some oj => free C oi oj ops
      | _, _ => false) && pairs ops tb l
def linear (ops : Array Oper) : List Nat → List Nat → Bool
  | _, [] => true
  | seen, i :: l => match ops[i]? with
    | some o => !hasN i seen && ((preds o).all (fun p => hasN p seen) && linear ops (i :: seen) l)
    | none => false
def drawOk (ops : Array Oper) (ord : List Nat) : Bool := linear ops [] ord && ((List.range ops.size).all (fun j => hasN j ord) && (Nat.ble ord.length ops.size && pairs C ops (ancs ops ord []) ord))
def drawT (ops : Array Oper) (ord : List Nat) (s : St Ty) : T (St Ty) := match drawOk C ops ord with
  | true => opsD E C ops (ancs ops ord []) ord [] s
  | false => .fail
variable {E} {C}
variable {X : Set2} {W0 : World} {F0 F F' : Set2} {B : Nat → Value} {w w' : World} {hp hp' : Heap Ty} {vals vals' : Nat → Value} {sets sets' : Nat → Set2} {P : Program} {s : St Ty} {a : Act}
theorem memO_spec {t : Nat} {l : List Operand} : memO t l = true ↔ .tmp t ∈ l := by
  induction l with
  | nil => simp [memO]
  | cons x l ih =>
    cases x with
    | tmp t' =>
      unfold memO
      split
      · rename_i e; have := Nat.eq_of_beq_eq_true e; subst this; simp
      · rename_i e
        have : t ≠ t' := fun h => by subst h; rw [Nat.beq_refl] at e; cases e
        rw [ih]
        simp [this]
    | _ => unfold memO; rw [ih]; simp
theorem look_rest (op : Op) (t : Nat) : ∀ (fr : List (Nat × AV Ty)), look (restF op fr) t = if memO t op.operands.toList = true then look fr t else .dead
  | [] => by simp [restF, look]
  | (j, x) :: l => by
    unfold restF
    split
    · rename_i e
      rw [look_cons, look_cons, look_rest op t l]
      by_cases h : t = j
      · subst h
        rw [if_pos rfl, if_pos rfl, if_pos e]
      · rw [if_neg h, if_neg h]
    · rename_i e
      rw [look_cons, look_rest op t l]
      by_cases h : t = j
      · subst h
        rw [if_neg (by rw [e]; simp), if_neg (by rw [e]; simp)]
      · rw [if_neg h]
/-- The rest stands for the values whatever the other slots hold. -/
theorem rest_rep {op : Op} {fr : List (Nat × AV Ty)} (h : ∀ t, Operand.tmp t ∈ op.operands.toList → VRep E F w hp vals (a.tmps.getD t undef) (look fr t)) (x : Operand) : VRep E F w hp vals (a.eval x) (opA (restF op fr) x) := by
  cases x with
  | tmp t =>
    show VRep E F w hp vals (a.tmps.getD t undef) (look (restF op fr) t)
    rw [look_rest]
    split
    · rename_i e; exact h t (memO_spec.1 e)
    · exact .dead _
  | const v => exact lit_ok F w hp vals v
  | func f => exact .rep _ _ (.v _)
  | global g => exact .dead _
theorem rest_repX {op : Op} {fr : List (Nat × AV Ty)} (h : ∀ t, Operand.tmp t ∈ op.operands.toList → FRep E X W0 F w hp vals sets (a.tmps.getD t undef) (look fr t)) (x : Operand) (r : Nat) (p : Path) (t : Nat) (xs : List (Ty t)) (e : opA (restF op fr) x = .ext r p t xs) : OvOk E X W0 F w hp vals sets (a.eval x) r p t xs := by
  cases x with
  | tmp t' =>
    have e : look (restF op fr) t' = .ext r p t xs := e
    rw [look_rest] at e
    split at e
    · rename_i e'; exact (h t' (memO_spec.1 e')).2 r p t xs e
    · cases e
  | const v =>
    have e : lit v = AV.ext r p t xs := e
    unfold lit at e
    split at e <;> cases e
  | func f => cases e
  | global g => cases e
-- operations of kind 2 add memory
def SubX (ks : List (Nat × Nat)) (hp hp' : Heap Ty) : Prop := ∀ r R, root hp r = some R → root hp' r = some R ∨ ∃ d, (r, d) ∈ ks
theorem Sub.subX {hp hp' : Heap Ty} (h : Sub hp hp') (ks : List (Nat × Nat)) : SubX ks hp hp' := fun r R e => .inl (h r R e)
theorem toCell_subX {m : Bool} {hp hp' : Heap Ty} {old a c : AV Ty} {ks : List (Nat × Nat)} (h : toCell m hp old a = some (c, hp', ks)) : SubX ks hp hp' := by
  have free : ∀ r R r', root hp r' = some R → root (hp.set r none) r' = some R ∨ ∃ d, (r', d) ∈ [(r, 0)] := by
    intro r R r' e
    by_cases er : r = r'
    · subst er; exact .inr ⟨0, by simp⟩
    · exact .inl (by rw [root_free, if_neg er]; exact e)
  unfold toCell at h
  split at h
  · split at h
    · split at h <;> cases h; exact (Sub.refl _).subX _
    · split at h <;> cases h; exact (Sub.refl _).subX _
  · split at h <;> cases h; exact (Sub.refl _).subX _
  · split at h
    · split at h
      · cases h; exact fun r' R e => free _ R r' e
      · split at h <;> cases h; exact fun r' R e => free _ R r' e
    · cases h
  · cases h
theorem toCells_subX {m : Bool} : ∀ (as olds : List (AV Ty)) (hp hp' : Heap Ty) (cs : List (AV Ty)) (ks : List (Nat × Nat)), toCells m hp olds as = some (cs, hp', ks) → SubX ks hp hp'
  | [], olds, hp, hp', cs, ks, h => by cases h; exact (Sub.refl _).subX _
  | a :: as, olds, hp, hp', cs, ks, h => by
    unfold toCells at h
    split at h
    · rename_i c hp1 ks1 e1
      split at h
      · rename_i cs1 hp2 ks2 e2
        cases h
        intro r R e
        rcases toCell_subX e1 r R e with h1 | h1
        · rcases toCells_subX as _ _ _ _ _ e2 r R h1 with h2 | h2
          · exact .inl h2
          · exact .inr (h2.imp fun _ h => by simp [h])
        · exact .inr (h1.imp fun _ h => by simp [h])
      · cases h
    · cases h
theorem SubX.app {ks : List (Nat × Nat)} {hp hp' : Heap Ty} (h : SubX ks hp hp') (x : Root Ty) : SubX ks hp (hp' ++ [some x]) := fun r R e => (h r R e).imp (fun h => by
  unfold root at h ⊢
  rw [List.getElem?_append_left (by
    rcases Nat.lt_or_ge r hp'.length with h' | h'
    · exact h'
    · rw [List.getElem?_eq_none h'] at h; cases h)]
  exact h) id
theorem sub_app (hp x : Heap Ty) : Sub hp (hp ++ x) := fun r R h => by
  unfold root at h ⊢
  rw [List.getElem?_append_left (by
    rcases Nat.lt_or_ge r hp.length with h' | h'
    · exact h'
    · rw [List.getElem?_eq_none h'] at h; cases h)]
  exact h
theorem touch_kill0 {ks : List (Nat × Nat)} {a : AV Ty} (h : touch0 ks a = false) : kill0 ks a = a := by
  cases a <;> first | rfl | (cases h; done) | skip
  · have h : hit ks _ _ = false := h
    simp only [kill0, h]
  · have h : hit ks _ _ = false := h
    simp only [kill0, h]
theorem map_id {f : AV Ty → AV Ty} {l : List (AV Ty)} (h : ∀ a, a ∈ l → f a = a) : l.map f = l := by
  induction l with
  | nil => rfl
  | cons a l ih => rw [List.map_cons, h a (by simp), ih fun b hb => h b (by simp [hb])]
theorem touch_kill1 {ks : List (Nat × Nat)} {a : AV Ty} (h : touch1 ks a = false) : kill1 ks a = a := by
  cases a with
  | agg cs =>
    have h : cs.any (touch0 ks) = false := h
    rw [List.any_eq_false] at h
    show AV.agg (cs.map (kill0 ks)) = _
    rw [map_id fun a ha => touch_kill0 (by simpa using h a ha)]
  | _ => simp only [touch1, kill1] at h ⊢; exact touch_kill0 h
theorem touch_kill {ks : List (Nat × Nat)} {a : AV Ty} (h : touch ks a = false) : killA ks a = a := by
  cases ks with
  | nil => rfl
  | cons k l =>
    show killB (k :: l) a = a
    cases a with
    | tup cs =>
      have h : cs.any (touch1 (k :: l)) = false := h
      rw [List.any_eq_false] at h
      show AV.tup (cs.map (kill1 (k :: l))) = _
      rw [map_id fun a ha => touch_kill1 (by simpa using h a ha)]
    | _ => simp only [touch, killB] at h ⊢; exact touch_kill1 h
theorem rest_mem {op : Op} {t : Nat} (h : Operand.tmp t ∈ op.operands.toList) : ∀ (fr : List (Nat × AV Ty)), look fr t = .dead ∨ (t, look fr t) ∈ restF op fr
  | [] => .inl rfl
  | (j, x) :: l => by
    rw [look_cons]
    by_cases e : t = j
    · subst e
      right
      rw [if_pos rfl]
      unfold restF
      rw [memO_spec.2 h]
      exact List.mem_cons_self
    · rw [if_neg e]
      refine (rest_mem h l).imp id fun hm => ?_
      unfold restF
      split
      · exact List.mem_cons_of_mem _ hm
      · exact hm
theorem pureT_still {fr : List (Nat × AV Ty)} {hp hp' : Heap Ty} {o : Oper} {av : AV Ty} (hs : still o = true) (e : (pureT E ⟨fr, hp⟩ o.op).val = some av) : (pureT E ⟨fr, hp'⟩ o.op).val = some av := by
  unfold still at hs
  generalize o.op = op at hs e
  cases op <;> first | (cases hs; done) | exact e
mutual
theorem takeA_pre : ∀ (a : AV Ty) {hp hp' : Heap Ty} {r : AV Ty}, takeA hp a = some (r, hp') → ∃ x, hp' = hp ++ x
  | .v x, hp, hp', r, h => by unfold takeA at h; cases h; exact ⟨[], by simp⟩
  | .sl true t xs, hp, hp', r, h => by unfold takeA at h; cases h; exact ⟨_, rfl⟩
  | .sl false t xs, hp, hp', r, h => by unfold takeA at h; cases h; exact ⟨[], by simp⟩
  | .box m t x, hp, hp', r, h => by unfold takeA at h; cases h; exact ⟨_, rfl⟩
  | .agg cs, hp, hp', r, h => by
    unfold takeA at h
    split at h
    · rename_i e; cases h; exact takeL_pre cs e
    · cases h
  | .tup cs, hp, hp', r, h => by
    unfold takeA at h
    split at h
    · rename_i e; cases h; exact takeL_pre cs e
    · cases h
  | .ref _ _ _ _, hp, hp', r, h => by unfold takeA at h; cases h
  | .ptr _ _ _ _, hp, hp', r, h => by unfold takeA at h; cases h
  | .rp _ _ _ _, hp, hp', r, h => by unfold takeA at h; cases h
  | .dead, hp, hp', r, h => by unfold takeA at h; cases h
theorem takeL_pre : ∀ (l : List (AV Ty)) {hp hp' : Heap Ty} {r : List (AV Ty)}, takeL hp l = some (r, hp') → ∃ x, hp' = hp ++ x
  | [], hp, hp', r, h => by unfold takeL at h; cases h; exact ⟨[], by simp⟩
  | a :: l, hp, hp', r, h => by
    unfold takeL at h
    split at h
    · rename_i e1
      split at h
      · rename_i e2
        cases h
        obtain ⟨x, rfl⟩ := takeA_pre a e1
        obtain ⟨y, rfl⟩ := takeL_pre l e2
        exact ⟨x ++ y, by simp⟩
      · cases h
    · cases h
end
theorem focus_none : ∀ (args : List (AV Ty)) (mu : List Bool) (hp hp1 : Heap Ty) (as : List (AV Ty)) (rs : List (Option Nat)), mu.any id = false → focusL hp mu args = some (as, hp1, rs) → hp1 = hp ∧ ∀ x, x ∈ rs → x = none
  | [], mu, hp, hp1, as, rs, hm, h => by unfold focusL at h; cases h; exact ⟨rfl, fun x h => by cases h⟩
  | a :: l, mu, hp, hp1, as, rs, hm, h => by
    have h0 : mu.headD false = false := by
      cases mu with
      | nil => rfl
      | cons b m => simp at hm; exact hm.1
    have h1 : mu.tail.any id = false := by
      cases mu with
      | nil => rfl
      | cons b m => simp at hm ⊢; exact hm.2
    unfold focusL at h
    rw [h0] at h
    simp only at h
    split at h
    · rename_i e
      cases h
      obtain ⟨e1, e2⟩ := focus_none l _ _ _ _ _ h1 e
      exact ⟨e1, fun x hx => by rcases List.mem_cons.1 hx with rfl | hx <;> first | rfl | exact e2 x hx⟩
    · cases h
theorem restore_none : ∀ (rs : List (Option Nat)) (outs : List (AV Ty)) (hp : Heap Ty), (∀ x, x ∈ rs → x = none) → restore hp rs outs = hp
  | [], outs, hp, h => by unfold restore; rfl
  | x :: rs, [], hp, h => by cases x <;> (unfold restore; rfl)
  | x :: rs, o :: outs, hp, h => by
    have := h x (by simp)
    subst this
    have ih := restore_none rs outs hp fun y hy => h y (by simp [hy])
    cases o <;> (unfold restore; exact ih)
theorem SubX.free (hp : Heap Ty) (r : Nat) : SubX [(r, 0)] hp (hp.set r none) := fun r' R e => by
  by_cases er : r = r'
  · subst er; exact .inr ⟨0, by simp⟩
  · exact .inl (by rw [root_free, if_neg er]; exact e)
theorem SubX.put {ks : List (Nat × Nat)} {hp hp1 : Heap Ty} (h : SubX ks hp hp1) (r : Nat) (x : Option (Root Ty)) : SubX ((r, 0) :: ks) hp (hp1.set r x) := fun r' R e => by
  rcases h r' R e with h1 | h1
  · by_cases er : r = r'
    · subst er; exact .inr ⟨0, by simp⟩
    · exact .inl (by rw [root_set, if_neg er]; exact h1)
  · exact .inr (h1.imp fun _ h => by simp [h])
theorem srcA_subX {m : Bool} {t : Nat} {a : AV Ty} {ys : List (Ty t)} {hp hp1 : Heap Ty} {ks : List (Nat × Nat)} (h : srcA E m t hp a = some (ys, hp1, ks)) : SubX ks hp hp1 := by
  unfold srcA at h
  split at h
  · cases h; exact (Sub.refl _).subX _
  · split at h
    · cases h; exact (Sub.refl _).subX _
    · cases h
  · split at h
    · split at h
      · split at h
        · split at h
          · cases h; exact (Sub.refl _).subX _
          · split at h
            · cases h; exact .free _ _
            · cases h
        · cases h
      · cases h
    · cases h
  · cases h
theorem appT_subX {m : Bool} {e : Nat} {ei : TI} {x y : AV Ty} {r : EffR Ty} (h : (appAll E m hp e ei x y).val = some r) : SubX r.2.2 hp r.2.1 := by
  unfold appAll at h
  split at h
  · unfold appX at h
    split at h
    · split at h
      · split at h
        · rename_i hs
          split at h
          · rcases ite_val h with ⟨_, h⟩ | ⟨_, h⟩
            · cases h; exact srcA_subX hs
            · cases h
          · cases h
        · cases h
      · cases h
    · cases h
  · unfold appT at h
    split at h
    · split at h
      · rename_i hs
        rcases ite_val h with ⟨_, h⟩ | ⟨_, h⟩
        · cases h; exact (srcA_subX hs).app _
        · cases h
      · cases h
    · split at h
      · split at h
        · rename_i hs
          split at h
          · rcases ite_val h with ⟨_, h⟩ | ⟨_, h⟩
            · cases h; exact (srcA_subX hs).put _ _
            · cases h
          · cases h
        · cases h
      · cases h
    · cases h
theorem op_subX {fr : List (Nat × AV Ty)} {o : Oper} {dst : Option Nat} {r : EffR Ty} (h : (opT E C ⟨fr, hp⟩ dst o.op).val = some r) (hk : kindO C o = 2) : SubX r.2.2 hp r.2.1 := by
  obtain ⟨r1, hp2, ks⟩ := r
  show SubX ks hp hp2
  unfold kindO at hk
  generalize o.op = op at h hk
  cases op <;> simp only at hk
  case alloc t =>
    simp only [opT, allocT] at h
    split at h
    · cases h; exact (sub_app _ _).subX _
    · cases h
  case box t x =>
    simp only [opT, boxT] at h
    split at h
    · split at h
      · split at h
        · split at h
          · rename_i e
            split at h
            · cases h
              exact (toCells_subX _ _ _ _ _ _ e).app _
            · cases h
          · cases h
        · cases h
      · cases h
    · cases h
  case makeSlice t x y =>
    simp only [opT] at h
    split at h
    · split at h
      · unfold makeT at h
        split at h
        · rcases ite_val h with ⟨_, h⟩ | ⟨_, h⟩
          · cases h; exact (sub_app _ _).subX _
          · cases h
        · cases h
      · cases h
    · cases h
  case buildSlice t n ps =>
    simp only [opT] at h
    split at h
    · split at h
      · unfold litT at h
        split at h
        · split at h
          · split at h
            · rename_i e
              split at h
              · cases h
                exact (toCells_subX _ _ _ _ _ _ e).app _
              · cases h
            · cases h
          · cases h
        · cases h
      · cases h
    · cases h
  case call c =>
    split at hk
    · rename_i hc
      simp only [opT, hc] at h
      split at h
      · split at h
        · split at h
          · exact appT_subX h
          · cases h
        · cases h
      · cases h
    · rename_i f hc
      simp only [opT, hc] at h
      split at hk
      · rename_i q hs
        obtain ⟨mu, S⟩ := q
        rw [hs] at h
        simp only at h
        unfold callT at h
        split at h
        · rename_i as1 hp1 rs1 e
          have Fo := focus_ok _ _ _ _ _ _ e
          split at h
          · rw [T.val_bind] at h
            obtain ⟨p, _, h⟩ := h
            split at h
            · split at h
              · rename_i e3
                have h := Option.some.inj h
                injection h with h1 h2
                injection h2 with h2 h3
                subst h2 h3
                obtain ⟨x, hx⟩ := takeA_pre _ e3
                intro r R er
                rcases Fo.out r R er with h | ⟨i, h⟩
                · by_cases hin : ∃ i : Nat, rs1[i]? = some (some r)
                  · obtain ⟨i, hi⟩ := hin
                    exact .inr ⟨1, kills_mem hi⟩
                  · left
                    rw [hx]
                    refine sub_app _ x r R ?_
                    rw [restore_out _ _ _ r fun i hi => hin ⟨i, hi⟩]
                    exact h
                · exact .inr ⟨1, kills_mem h⟩
              · cases h
            · cases h
          · cases h
        · cases h
      · cases hk
    · cases hk
  all_goals cases hk
end
end Go.Proofs.Ytnibdgjlbhdmfaa.Ev
