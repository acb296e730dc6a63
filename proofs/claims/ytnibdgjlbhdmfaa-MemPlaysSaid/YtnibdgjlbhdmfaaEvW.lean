/- One step of the evaluator, whatever the operation is; regions in their written order. -/
import Derived.Test.YtnibdgjlbhdmfaaEvVC
namespace Go.Proofs.Ytnibdgjlbhdmfaa.Ev
open Go
set_option linter.unusedVariables false
set_option linter.unusedSimpArgs false
/-- What is known of a walk: contracts of the callees, deep or not, slots, pinned roots. -/
structure Cfg (Ty : Nat → Type) where
  S : Nat → Option (List Bool × (List (AV Ty) → T (AV Ty × List (AV Ty))))
  md : Nat → Bool
  nt : Nat
  nf : Nat
section
variable {Ty : Nat → Type} (E : Tb Ty) (C : Cfg Ty)
/-- 1: memory is left alone; 2: there is more memory behind it; 3: memory is written. -/
def kindO (o : Oper) : Nat := match o.op with
  | .alloc _ => 2
  | .box _ _ => 2
  | .makeSlice _ _ _ => 2
  | .buildSlice _ _ _ => 2
  | .store _ _ _ => 3
  | .call c => match c.callee with
    | .builtin .append => 2
    | .value (.func f) => match C.S f with
      | some _ => 2
      | none => 3
    | _ => 1
  | _ => 1
def noX : AV Ty → AV Ty
  | .ext _ _ _ _ => .dead
  | a => a
def pureR (s : St Ty) (op : Op) : T (EffR Ty) := (pureT E s op).bind fun a => .ret (noX a, s.hp, [])
def appAll (m : Bool) (hp : Heap Ty) (e : Nat) (ei : TI) (x y : AV Ty) : T (EffR Ty) := match x with
  | .ref r (q :: p) none _ => appX E hp ei r (q :: p) y
  | x => appT E m hp e ei x y
def deepD : Option Nat → Bool
  | some d => C.md d
  | none => false
def fixN : List (AV Ty) → List (AV Ty) → List (AV Ty)
  | z :: zs, a :: l => (match z, a with
    | .sl _ t _, .v (.slice none 0 0) => .sl false t []
    | _, a => a) :: fixN zs l
  | _, l => l
/-- An argument, by its type: nil is a row. -/
def fixA (t : Nat) : AV Ty → AV Ty
  | .v (.slice none 0 0) => match E.ti t with
    | some ⟨_, _, .slice e⟩ => .sl false e []
    | _ => .v (.slice none 0 0)
  | .agg cs => .agg (fixN ((E.cod t).enc false (E.cod t).zero) cs)
  | a => a
def fixL : List Nat → List (AV Ty) → List (AV Ty)
  | t :: ts, a :: l => fixA E t a :: fixL ts l
  | _, l => l
def opT (s : St Ty) (dst : Option Nat) (op : Op) : T (EffR Ty) := match op with
  | .alloc t => allocT E (deepD C dst) s.hp t
  | .box t x => boxT E (deepD C dst) s.hp t (opA s.fr x)
  | .store t x y => match E.ti t with
    | some i => match placeT E s.hp i (opA s.fr x) (opA s.fr y) with
      | some r => .ret r
      | none => storeT E s.hp i (opA s.fr x) (opA s.fr y)
    | none => .fail
  | .buildSlice t n parts => match E.ti t with
    | some ⟨_, _, .slice e⟩ => match E.ti e with
      | some ei => litT E (deepD C dst) s.hp s.fr e n ei parts.toList
      | none => .fail
    | _ => .fail
  | .makeSlice t x y => match E.ti t with
    | some ⟨_, _, .slice e⟩ => match E.ti e with
      | some ei => makeT E (deepD C dst) s.hp e ei (opA s.fr x) (opA s.fr y)
      | none => .fail
    | _ => .fail
  | .call c => match c.callee with
    | .builtin .append => match c.args.toList, c.argTypes.toList with
      | [x, y], [t1, t2] => match E.ti t1, E.ti t2 with
        | some ⟨_, _, .slice e⟩, some ⟨_, _, .slice _⟩ => match E.ti e, E.has e with
          | some ei, true => appAll E (deepD C dst) s.hp e ei (opA s.fr x) (opA s.fr y)
          | _, _ => .fail
        | _, _ => .fail
      | _, _ => .fail
    | .value (.func f) => match C.S f with
      | some (mu, S) => callT E s.hp mu S (fixL E c.argTypes.toList (c.args.toList.map (opA s.fr)))
      | none => .fail
    | _ => pureR E s (.call c)
  | op => pureR E s op
def okK : List (Nat × Nat) → Bool
  | [] => true
  | (r, d) :: l => (Nat.blt 0 d || Nat.ble C.nf r) && okK l
def okD : Option Nat → Bool
  | none => true
  | some d => Nat.blt d C.nt
def putF : Option Nat → AV Ty → List (Nat × AV Ty) → List (Nat × AV Ty)
  | none, _, fr => fr
  | some d, a, fr => (d, a) :: fr
def isX : AV Ty → Bool
  | .ext _ _ _ _ => true
  | _ => false
def hasX : List (Nat × AV Ty) → Bool
  | [] => false
  | (_, a) :: l => match isX a with
    | true => true
    | false => hasX l
/-- An appended row that waits to be stored: nothing else may happen to memory meanwhile. -/
def okX (o : Oper) (ks : List (Nat × Nat)) (fr : List (Nat × AV Ty)) : Bool := !hasX fr || (match ks with
  | _ :: _ => Nat.beq (kindO C o) 3
  | [] => Nat.beq (kindO C o) 1)
def goT (o : Oper) (s : St Ty) : T (St Ty) := (opT E C s o.dst o.op).bind fun r => match okK C r.2.2 && okD C o.dst && Nat.ble C.nf r.2.1.length && okX C o r.2.2 s.fr with
  | true => .ret ⟨putF o.dst r.1 (killF r.2.2 s.fr), r.2.1⟩
  | false => .fail
def isU : AV Ty → Bool
  | .v (.tuple _) => true
  | _ => false
def skipS (o : Oper) (s : St Ty) : St Ty := ⟨putF o.dst (.v undef) s.fr, s.hp⟩
def oneT (ops : Array Oper) (o : Oper) (s : St Ty) : T (St Ty) := match okD C o.dst with
  | true => match o.guard with
    | none => goT E C o s
    | some (g, want) => match (ops[g]?).bind (·.dst) with
      | some t => match look s.fr t with
        | .v (.bool b) => .ite (b = want) inferInstance (goT E C o ⟨(t, .v (.bool want)) :: s.fr, s.hp⟩) (.ret (skipS o ⟨(t, .v (.bool (!want))) :: s.fr, s.hp⟩))
        | a => match isU a with
          | true => .ret (skipS o s)
          | false => .fail
      | none => .fail
  | false => .fail
def opsT (ops : Array Oper) : List Nat → St Ty → T (St Ty)
  | [], s => .ret s
  | i :: l, s => match ops[i]? with
    | some o => (oneT E C ops o s).bind (opsT ops l)
    | none => .fail
variable {E} {C}
variable {X : Set2} {W0 : World} {F F' : Set2} {w w' : World} {hp hp' : Heap Ty} {vals vals' : Nat → Value} {sets sets' : Nat → Set2} {P : Program} {ρ : Operand → Value}
variable (E) (C) in
/-- The contracts hold. -/
def SOk (P : Program) : Prop := ∀ f mu S, C.S f = some (mu, S) → (∃ fn c, P.funcs[f]? = some fn ∧ (fn.name == "runtime.NumGoroutine") = false ∧ fn.body = some c) ∧ ∀ as r outs, (S as).val = some (r, outs) → CallOk E P f as r outs
theorem run_enter {f : FuncId} (h : ∃ fn c, P.funcs[f]? = some fn ∧ (fn.name == "runtime.NumGoroutine") = false ∧ fn.body = some c) (args : Array Value) (w : World) : (callFunc f args).run P w = .ok (.enter f args) w := by
  obtain ⟨fn, c, h1, h2, h3⟩ := h
  unfold callFunc
  simp only [program, Bind.bind, Sem.bind, Sem.run, h1, h2, h3]
  rfl
def After (E : Tb Ty) (C : Cfg Ty) (o : Oper) (X : Set2) (W0 : World) (F : Set2) (w : World) (hp : Heap Ty) (vals : Nat → Value) (sets : Nat → Set2) (res : EffR Ty) (v : Value) (w' : World) : Prop :=
  ∃ F' vals' sets', Inv E X W0 F' w' res.2.1 vals' sets' ∧ VRep E F' w' res.2.1 vals' v res.1 ∧ (∀ u a, VRep E F w hp vals u a → VRep E F' w' res.2.1 vals' u (killA res.2.2 a)) ∧ (∀ j, j < hp.length → (j, 0) ∈ res.2.2 ∨ vals' j = vals j) ∧ Grow X W0 F F' ∧
    (∀ r0 p t xs, res.1 = .ext r0 p t xs → OvOk E X W0 F' w' res.2.1 vals' sets' v r0 p t xs) ∧ (kindO C o = 1 → ∀ u r0 p t xs, OvOk E X W0 F w hp vals sets u r0 p t xs → OvOk E X W0 F' w' res.2.1 vals' sets' u r0 p t xs)
theorem EffOk.wp {a : Act} {o : Oper} {r : EffR Ty} (h : EffOk E P a.eval o X W0 F w hp vals r) (hk : kindO C o ≠ 1) {Kt : Act → World → Prop} {Q : Exit → Act → World → Prop}
    (hK : ∀ v w', After E C o X W0 F w hp vals sets r v w' → Kt (a.put o.dst v) w') : o.wp P a w Kt Q := by
  obtain ⟨nx, v, w', F', vals', sets', h1, h2, h3, h4, h5, h6, h7, h8⟩ := h
  unfold Oper.wp
  rw [h1]
  rcases h2 with rfl | ⟨rfl, rfl⟩
  · exact hK v w' ⟨F', vals', sets', h3, h4, h5, h6, h7, h8, fun e => absurd e hk⟩
  · exact hK undef w' ⟨F', vals', sets', h3, h4, h5, h6, h7, h8, fun e => absurd e hk⟩
theorem kill_nil {u : Value} : ∀ (a : AV Ty), VRep E F w hp vals u a → VRep E F w hp vals u (killA [] a) := fun a h =>
  VRep.kill (fun v a h => h) (fun v r p vw f _ h => h) (fun v r p i o _ h => h) h
theorem noX_rep {v : Value} {a : AV Ty} (h : VRep E F w hp vals v a) : VRep E F w hp vals v (noX a) := by
  cases a <;> first | exact h | exact .dead _
theorem noX_ne {a : AV Ty} {r : Nat} {p : Path} {t : Nat} {xs : List (Ty t)} : noX a ≠ .ext r p t xs := by
  cases a <;> simp [noX]
theorem fixN_ok : ∀ (zs l : List (AV Ty)), (fixN zs l).length = l.length ∧ ∀ (i : Nat) v a b, l[i]? = some a → (fixN zs l)[i]? = some b → VRep E F w hp vals v a → VRep E F w hp vals v b
  | [], l => by
    have : fixN [] l = l := by cases l <;> rfl
    rw [this]
    exact ⟨rfl, fun i v a b e1 e2 h => by rw [e1] at e2; cases e2; exact h⟩
  | z :: zs, [] => ⟨rfl, fun i v a b e => by simp at e⟩
  | z :: zs, x :: l => by
    obtain ⟨h1, h2⟩ := fixN_ok zs l
    refine ⟨by simp [fixN, h1], fun i v a b e1 e2 h => ?_⟩
    cases i with
    | succ i => exact h2 i v a b (by simpa using e1) (by simpa [fixN] using e2) h
    | zero =>
      cases e1
      simp only [fixN, List.getElem?_cons_zero, Option.some.injEq] at e2
      subst e2
      split
      · have := h.v
        subst this
        exact .rep _ _ (.nil _ _ _)
      · exact h
theorem fixA_ok {t : Nat} {v : Value} {a : AV Ty} (h : VRep E F w hp vals v a) : VRep E F w hp vals v (fixA E t a) := by
  unfold fixA
  split
  · split
    · have := h.v
      subst this
      exact .rep _ _ (.nil _ _ _)
    · exact h
  · rename_i cs
    obtain ⟨vs, rfl, h1, h2⟩ := h.agg'
    obtain ⟨k1, k2⟩ := fixN_ok (E := E) (F := F) (w := w) (hp := hp) (vals := vals) ((E.cod t).enc false (E.cod t).zero) cs
    refine .agg vs _ (by rw [h1, k1]) (fun i v b e1 e2 => ?_)
    have hi : i < cs.length := by rw [← k1]; exact get_lt e2
    exact k2 i v _ b (List.getElem?_eq_getElem hi) e2 (h2 i v _ e1 (List.getElem?_eq_getElem hi))
  · exact h
theorem fixL_ok : ∀ (ts : List Nat) (l : List (AV Ty)), (fixL E ts l).length = l.length ∧ ∀ (i : Nat) v a b, l[i]? = some a → (fixL E ts l)[i]? = some b → VRep E F w hp vals v a → VRep E F w hp vals v b
  | [], l => by
    have : fixL E [] l = l := by cases l <;> rfl
    rw [this]
    exact ⟨rfl, fun i v a b e1 e2 h => by rw [e1] at e2; cases e2; exact h⟩
  | z :: zs, [] => ⟨rfl, fun i v a b e => by simp at e⟩
  | z :: zs, x :: l => by
    obtain ⟨h1, h2⟩ := fixL_ok zs l
    refine ⟨by simp [fixL, h1], fun i v a b e1 e2 h => ?_⟩
    cases i with
    | succ i => exact h2 i v a b (by simpa using e1) (by simpa [fixL] using e2) h
    | zero =>
      cases e1
      simp only [fixL, List.getElem?_cons_zero, Option.some.injEq] at e2
      subst e2
      exact fixA_ok h
theorem takeA_ne {a b : AV Ty} (h : takeA hp a = some (b, hp')) {r : Nat} {p : Path} {t : Nat} {xs : List (Ty t)} : b ≠ .ext r p t xs := by
  cases a with
  | v x => unfold takeA at h; cases h; simp
  | sl o t xs => cases o <;> (unfold takeA at h; cases h; simp)
  | box m t x => unfold takeA at h; cases h; simp
  | agg cs =>
    unfold takeA at h
    split at h
    · cases h; simp
    · cases h
  | tup cs =>
    unfold takeA at h
    split at h
    · cases h; simp
    · cases h
  | rp t xs i o => unfold takeA at h; cases h
  | dead => unfold takeA at h; cases h
  | ref r p vw f => unfold takeA at h; cases h
  | ptr r p i o => unfold takeA at h; cases h
  | ext r p t xs => unfold takeA at h; cases h
theorem op_ok (K : TbOk E P) (G : Good E) (hS : SOk E C P) (I : Inv E X W0 F w hp vals sets) {fr : List (Nat × AV Ty)} {a : Act} (hρ : ∀ x, VRep E F w hp vals (a.eval x) (opA fr x)) (hX : ∀ x r p t xs, opA fr x = .ext r p t xs → OvOk E X W0 F w hp vals sets (a.eval x) r p t xs) (o : Oper) {r : EffR Ty} (h : (opT E C ⟨fr, hp⟩ o.dst o.op).val = some r)
    {Kt : Act → World → Prop} {Q : Exit → Act → World → Prop} (hK : ∀ v w', After E C o X W0 F w hp vals sets r v w' → Kt (a.put o.dst v) w') : o.wp P a w Kt Q := by
  have hpure : (pureR E ⟨fr, hp⟩ o.op).val = some r → o.wp P a w Kt Q := by
    intro h
    unfold pureR at h
    rw [T.val_bind] at h
    obtain ⟨av, h1, h2⟩ := h
    cases h2
    obtain ⟨v, h3, h4⟩ := pureT_ok (st := ⟨fr, hp⟩) K G I.H hρ o h1
    unfold Oper.wp
    rw [h3]
    exact hK v w ⟨F, vals, sets, I, noX_rep h4, fun u a h => kill_nil a h, fun j _ => .inr rfl, Grow.refl _ _ _, fun _ _ _ _ e => absurd e noX_ne, fun _ _ _ _ _ _ h => h⟩
  unfold opT at h
  split at h
  · rename_i t ho
    exact (alloc_eff K G I h o ho).wp (by unfold kindO; rw [ho]; simp) hK
  · rename_i t x ho
    exact (box_eff K G I (hρ x) h o ho).wp (by unfold kindO; rw [ho]; simp) hK
  · rename_i t x y ho
    split at h
    · rename_i i hi
      have hk : kindO C o ≠ 1 := by unfold kindO; rw [ho]; simp
      split at h
      · rename_i r' hp'
        cases h
        exact (place_ok K G I hi (hρ x) (hρ y) (hX y) hp' o ho).wp hk hK
      · exact (store_eff K G I hi (hρ x) (hρ y) h o ho).wp hk hK
    · cases h
  · rename_i t n parts ho
    split at h
    · rename_i e hi
      split at h
      · rename_i ei hei
        exact (lit_eff K G I hρ hi rfl hei h o ho).wp (by unfold kindO; rw [ho]; simp) hK
      · cases h
    · cases h
  · rename_i t x y ho
    split at h
    · rename_i e hi
      split at h
      · rename_i ei hei
        exact (make_eff K G I hi rfl hei (hρ x) (hρ y) h o ho).wp (by unfold kindO; rw [ho]; simp) hK
      · cases h
    · cases h
  · rename_i c ho
    split at h
    · rename_i hc
      split at h
      · rename_i x y t1 t2 ha ht
        split at h
        · rename_i e _ _ _ h1 h2
          split at h
          · rename_i ei hei hh
            have hk : kindO C o ≠ 1 := by unfold kindO; rw [ho]; simp [hc]
            unfold appAll at h
            split at h
            · rename_i r' q' p' f' hx'
              exact (appX_eff K G I h1 rfl h2 rfl hei hh (by rw [← hx']; exact hρ x) (hρ y) h o c ho hc ha ht).wp hk hK
            · exact (app_eff K G I h1 rfl h2 rfl hei hh (hρ x) (hρ y) h o c ho hc ha ht).wp hk hK
          · cases h
        · cases h
      · cases h
    · rename_i f hc
      split at h
      · rename_i mu S hs
        obtain ⟨fx1, fx2⟩ := fixL_ok (E := E) (F := F) (w := w) (hp := hp) (vals := vals) c.argTypes.toList (c.args.toList.map (opA fr))
        have hcall := call_ok (P := P) (f := f) (vs := c.args.toList.map a.eval) G I (by rw [fx1]; simp) (fun i v av q1 q2 => by
          have hi : i < (c.args.toList.map (opA fr)).length := by rw [← fx1]; exact get_lt q2
          refine fx2 i v _ av (List.getElem?_eq_getElem hi) q2 ?_
          have q3 := List.getElem?_eq_getElem hi
          rw [List.getElem?_map] at q1 q3
          cases e : c.args.toList[i]? with
          | none => rw [e] at q1; cases q1
          | some x => rw [e] at q1 q3; cases q1; rw [← Option.some.inj q3]; exact hρ x) (hS f mu S hs).2 h
        have hrun : (execOp a.eval o).run P w = .ok (.enter f (c.args.toList.map a.eval).toArray) w := by
          unfold execOp
          rw [ho]
          simp [resolve, hc, Deferred.ofValue, Act.eval, Bind.bind, Sem.bind, Pure.pure, Sem.run, invoke]
          rw [run_enter (hS f mu S hs).1, show (c.args.toList.map a.eval).toArray = c.args.map a.eval from by apply Array.ext'; simp]
        unfold Oper.wp
        rw [hrun, Oper.upon_enter]
        refine Calls.mono hcall fun e w' he => ?_
        obtain ⟨v, F', vals', sets', rfl, h1, h2, h3, h4, h5⟩ := he
        refine hK v w' ⟨F', vals', sets', h1, h2, h3, fun j hj => .inr (h4 j hj), h5, fun _ _ _ _ e => ?_, fun hk => absurd hk (by unfold kindO; rw [ho]; simp [hc, hs])⟩
        unfold callT at h
        split at h
        · split at h
          · rw [Ev.T.val_bind] at h
            obtain ⟨q, _, h⟩ := h
            split at h
            · split at h
              · rename_i e3
                cases h
                exact absurd e (takeA_ne e3)
              · cases h
            · cases h
          · cases h
        · cases h
      · cases h
    · exact hpure (by rw [ho]; exact h)
  · exact hpure h
end
end Go.Proofs.Ytnibdgjlbhdmfaa.Ev
