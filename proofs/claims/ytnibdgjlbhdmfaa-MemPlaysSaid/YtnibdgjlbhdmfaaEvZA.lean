/- Code walked by the evaluator: from one loop's head or join to the next. -/
import Derived.Test.YtnibdgjlbhdmfaaEvZG
namespace Go.Proofs.Ytnibdgjlbhdmfaa.Ev
open Go
set_option linter.unusedVariables false
set_option linter.unusedSimpArgs false
/-- Where slots are trimmed: behind a block; at the head of the loop in a block. -/
structure Cuts where
  jb : Nat → Option Hint
  jl : Nat → Option Hint
  jo : Nat → Option (List Nat)
section
variable {Ty : Nat → Type} (E : Tb Ty) (C : Cfg Ty) (U : Cuts) {R : Type}
def regT (id : Nat) (draw : Bool) (ops : Array Oper) (s : St Ty) : T (St Ty) := match draw with
  | false => opsT E C ops (List.range ops.size) s
  | true => match U.jo id with
    | some ord => drawT E C ops ord s
    | none => drawT E C ops (List.range ops.size) s
def note : Operand → Bool → St Ty → St Ty
  | .tmp t, b, s => ⟨(t, .v (.bool b)) :: s.fr, s.hp⟩
  | _, _, s => s
def loopHint : List Item → Option Hint
  | .inBlock id :: _ => U.jl id
  | _ => none
def run (J : List Item → St Ty → Option R) (Rt : St Ty → Option R) : Nat → List Item → St Ty → Option R
  | 0, _, _ => none
  | g + 1, [], s => Rt s
  | g + 1, .code c :: k, s => match c with
    | .skip => run J Rt g k s
    | .label _ => run J Rt g k s
    | .region id ops draw => (regT E C U id draw ops s).run (run J Rt g k)
    | .seq x y => run J Rt g (.code x :: .code y :: k) s
    | .cond c x y => match opA s.fr c with
      | .v (.bool b) => @ite _ (b = true) inferInstance (run J Rt g (.code x :: k) (note c true s)) (run J Rt g (.code y :: k) (note c false s))
      | _ => none
    | .block id c => run J Rt g (.code c :: .inBlock id :: k) s
    | .loop c => match loopHint U k with
      | some h => J (.code c :: .inLoop c :: k) (trim C h s)
      | none => none
    | .exit id => match exitTo id k with
      | some k' => match U.jb id with
        | some h => J k' (trim C h s)
        | none => run J Rt g k' s
      | none => none
    | .ret => Rt s
    | _ => none
  | g + 1, .inBlock id :: k, s => match U.jb id with
    | some h => J k (trim C h s)
    | none => run J Rt g k s
  | g + 1, .inLoop c :: k, s => match loopHint U k with
    | some h => J (.code c :: .inLoop c :: k) (trim C h s)
    | none => none
  | _, _, _ => none
/-- n pieces, at most. -/
def walk (Rt : St Ty → Option R) : Nat → List Item → St Ty → Option R
  | 0, _, _ => none
  | n + 1, k, s => run E C U (walk Rt n) Rt 4096 k s
variable {E} {C} {U}
variable {X : Set2} {W0 : World} {F0 F F' : Set2} {B : Nat → Value} {w w' : World} {hp hp' : Heap Ty} {vals vals' : Nat → Value} {sets sets' : Nat → Set2} {P : Program} {s : St Ty} {a : Act}
/-- From here the function comes to its return. -/
def Fin (P : Program) (b : Frame) (cs : List Frame) (k : List Item) (a : Act) (w : World) (Q : Act → World → Prop) : Prop :=
  ∃ a' w' k', Q a' w' ∧ Steps P (lone (b.at a k) cs w) (lone { b.at a' k' with mode := .returning } cs w')
theorem Fin.of_steps {b : Frame} {cs : List Frame} {k k1 : List Item} {a a1 : Act} {w1 : World} {Q : Act → World → Prop} (h : Steps P (lone (b.at a k) cs w) (lone (b.at a1 k1) cs w1)) (h1 : Fin P b cs k1 a1 w1 Q) : Fin P b cs k a w Q := by
  obtain ⟨a', w', k', q, hs⟩ := h1
  exact ⟨a', w', k', q, h.trans hs⟩
theorem reg_ok (K : TbOk E P) (G : Good E) (hS : SOk E C P) (hm : P.follows .mixedOrders = true) {id : Nat} {draw : Bool} {ops : Array Oper} {s' : St Ty} (R : SRep E C X W0 F0 B s a w) (h : (regT E C U id draw ops s).val = some s') {Q : Exit → Act → World → Prop}
    (hQ : ∀ a' w', SRep E C X W0 F0 B s' a' w' → Q .normal a' w') : (Code.region id ops draw).wp P Q a w := by
  unfold regT at h
  split at h
  · exact wp_region (ops_ok K G hS _ R h hQ)
  · split at h
    · exact draw_ok K G hS hm R h hQ
    · exact draw_ok K G hS hm R h hQ
theorem SRep.note (Rp : SRep E C X W0 F0 B s a w) {c : Operand} {b : Bool} (h : opA s.fr c = .v (.bool b)) : SRep E C X W0 F0 B (note c b s) a w := by
  unfold Ev.note
  split
  · exact SRep.learn Rp h _ rfl
  · exact Rp
theorem runs (K : TbOk E P) (G : Good E) (hS : SOk E C P) (hm : P.follows .mixedOrders = true) {J : List Item → St Ty → Option R} {Rt : St Ty → Option R} {b : Frame} {cs : List Frame} {r : R} {Q : Act → World → Prop}
    (hJ : ∀ k s a w, J k s = some r → SRep E C X W0 F0 B s a w → Fin P b cs k a w Q) (hR : ∀ s a w, Rt s = some r → SRep E C X W0 F0 B s a w → Q a w) :
    ∀ (g : Nat) (k : List Item) (s : St Ty) (a : Act) (w : World), run E C U J Rt g k s = some r → SRep E C X W0 F0 B s a w → Fin P b cs k a w Q
  | 0, k, s, a, w, h, Rp => by
    unfold run at h
    cases h
  | g + 1, [], s, a, w, h, Rp => ⟨a, w, [], hR s a w h Rp, .one step_end⟩
  | g + 1, .code c :: k, s, a, w, h, Rp => by
    unfold run at h
    split at h
    · exact .of_steps (.one step_skip) (runs K G hS hm hJ hR g k s a w h Rp)
    · exact .of_steps (.one step_label) (runs K G hS hm hJ hR g k s a w h Rp)
    · rename_i id ops draw
      rw [T.run_eq] at h
      obtain ⟨s', h1, h2⟩ := h
      obtain ⟨e, a', w', ⟨rfl, R'⟩, harr⟩ := reg_ok (id := id) (Q := fun e a w => e = .normal ∧ SRep E C X W0 F0 B s' a w) K G hS hm Rp h1 (fun a' w' R' => ⟨rfl, R'⟩) b k cs
      exact .of_steps harr (runs K G hS hm hJ hR g k s' a' w' h2 R')
    · exact .of_steps (.one step_seq) (runs K G hS hm hJ hR g _ s a w h Rp)
    · rename_i c x y
      split at h
      · rename_i q hq
        obtain ⟨F, vals, sets, I, hf, _, _⟩ := Rp.ex
        have hc : a.eval c = .bool q := by
          have := op_rep (fun t => (hf t).1) c
          rw [hq] at this
          exact this.v
        have hl := Rp.note hq
        cases q with
        | true => exact .of_steps (.one (step_cond hc)) (runs K G hS hm hJ hR g _ _ a w h hl)
        | false => exact .of_steps (.one (step_cond hc)) (runs K G hS hm hJ hR g _ _ a w h hl)
      · cases h
    · exact .of_steps (.one step_block) (runs K G hS hm hJ hR g _ s a w h Rp)
    · rename_i c
      split at h
      · rename_i hh _
        exact .of_steps (.one step_loop) (hJ _ _ a w h (trim_ok G hh Rp))
      · cases h
    · rename_i id
      split at h
      · rename_i k' hk
        split at h
        · rename_i hh _
          exact .of_steps (.one (step_exit hk)) (hJ _ _ a w h (trim_ok G hh Rp))
        · exact .of_steps (.one (step_exit hk)) (runs K G hS hm hJ hR g k' s a w h Rp)
      · cases h
    · exact ⟨a, w, _, hR s a w h Rp, .one step_ret⟩
    · cases h
  | g + 1, .inBlock id :: k, s, a, w, h, Rp => by
    unfold run at h
    split at h
    · rename_i hh _
      exact .of_steps (.one step_inBlock) (hJ _ _ a w h (trim_ok G hh Rp))
    · exact .of_steps (.one step_inBlock) (runs K G hS hm hJ hR g k s a w h Rp)
  | g + 1, .inLoop c :: k, s, a, w, h, Rp => by
    unfold run at h
    split at h
    · rename_i hh _
      exact .of_steps (.one step_inLoop) (hJ _ _ a w h (trim_ok G hh Rp))
    · cases h
  | g + 1, .inScope c :: k, s, a, w, h, Rp => by unfold run at h; cases h
  | g + 1, .inRegion c l :: k, s, a, w, h, Rp => by unfold run at h; cases h
  | g + 1, .inRangeFunc l :: k, s, a, w, h, Rp => by unfold run at h; cases h
  | g + 1, .endRangeFunc l :: k, s, a, w, h, Rp => by unfold run at h; cases h
  | g + 1, .beginRound :: k, s, a, w, h, Rp => by unfold run at h; cases h
  | g + 1, .call _ _ _ _ :: k, s, a, w, h, Rp => by unfold run at h; cases h
  | g + 1, .extern _ _ :: k, s, a, w, h, Rp => by unfold run at h; cases h
theorem walk_ok (K : TbOk E P) (G : Good E) (hS : SOk E C P) (hm : P.follows .mixedOrders = true) {Rt : St Ty → Option R} {b : Frame} {cs : List Frame} {r : R} {Q : Act → World → Prop}
    (hR : ∀ s a w, Rt s = some r → SRep E C X W0 F0 B s a w → Q a w) : ∀ (n : Nat) (k : List Item) (s : St Ty) (a : Act) (w : World), walk E C U Rt n k s = some r → SRep E C X W0 F0 B s a w → Fin P b cs k a w Q
  | 0, k, s, a, w, h, Rp => by cases h
  | n + 1, k, s, a, w, h, Rp => runs K G hS hm (walk_ok K G hS hm hR n) hR 4096 k s a w h Rp
end
end Go.Proofs.Ytnibdgjlbhdmfaa.Ev
