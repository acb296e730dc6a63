/- The evaluator's operations that leave memory alone: the machine does the same. -/
import Derived.Test.YtnibdgjlbhdmfaaEvG
namespace Go.Proofs.Ytnibdgjlbhdmfaa.Ev
open Go
set_option linter.unusedVariables false
set_option linter.unusedSimpArgs false
section
variable {Ty : Nat → Type} {E : Tb Ty}
variable {F : Set2} {w : World} {hp : Heap Ty} {vals : Nat → Value} {sets : Nat → Set2} {P : Program}
theorem opT_val {α : Type} {o : Option α} {a : α} (h : (T.opt o).val = some a) : o = some a := by
  cases o with
  | none => cases h
  | some b => cases h; rfl
theorem ite_val {α : Type} {c : Prop} {d : Decidable c} {x y : T α} {a : α} (h : (T.ite c d x y).val = some a) : (c ∧ x.val = some a) ∨ (¬ c ∧ y.val = some a) := by
  simp only [T.val] at h
  split at h
  · exact .inl ⟨‹_›, h⟩
  · exact .inr ⟨‹_›, h⟩
theorem fail_val {α : Type} {a : α} {q : Prop} (h : (T.fail : T α).val = some a) : q := by cases h
theorem bt_of {s : ByteArray} {q : Int} (h1 : q < s.size) (h0 : 0 ≤ q) : s[q.toNat]? = some (s[q.toNat]'(by omega)) ∧ btI s q = ((s[q.toNat]'(by omega)).toNat : Int) := by
  have h : q.toNat < s.size := by omega
  refine ⟨getElem?_pos s _ h, ?_⟩
  unfold btI
  rw [dif_pos h]
theorem asInt_of {v : Value} {a : AV Ty} {n : Int} (hv : VRep E F w hp vals v a) (h : intA a = some n) : ∃ k, v = .int k n := by
  unfold intA at h
  split at h
  · cases h; exact ⟨_, hv.v⟩
  · cases h
theorem bound_ok {v : Value} {k : IntKind} {n : Int} {y : Nat} {code : BoundsCode} (hv : v = .int k n) (h0 : 0 ≤ n) (hy : n ≤ y) : Instr.sliceBound v y code = Sem.pure n.toNat := by
  subst hv
  simp [Instr.sliceBound, asIntOf, Bind.bind, Sem.bind, Pure.pure, h0, hy]
/-- The bounds of a cut. -/
theorem cut_ok {ρ : Operand → Value} {f : Operand → AV Ty} (hρ : ∀ x, VRep E F w hp vals (ρ x) (f x)) {n cap : Nat} (hcap : n ≤ cap) {isS : Bool} (hS : isS = false → cap = n) {lo hi mx : Option Operand} {k : Nat → Nat → Bool → T (AV Ty)} {av : AV Ty}
    (h : (cutT n (lo.map f) (hi.map f) (mx.map f) k).val = some av) :
    ∃ l q m, Instr.sliceBounds isS n cap (lo.map ρ) (hi.map ρ) (mx.map ρ) = Sem.pure (l, q, m) ∧ l ≤ q ∧ q ≤ n ∧ ((mx = none ∧ m = cap ∧ (k l q false).val = some av) ∨ (mx.isSome = true ∧ m = q ∧ (k l q true).val = some av)) := by
  unfold cutT at h
  have flo : ∀ z, (match lo.map f with | none => some 0 | some a => intA a) = some z → ∀ (q : Nat) (c : BoundsCode) (K : Nat → Sem (Nat × Nat × Nat)), 0 ≤ z → z ≤ q → (match lo.map ρ with | some v => (Instr.sliceBound v q c).bind K | none => K 0) = K z.toNat := by
    intro z hz q c K h0 hq
    cases lo with
    | none => cases hz; rfl
    | some x =>
      obtain ⟨k, hk⟩ := asInt_of (hρ x) hz
      simp only [Option.map_some]
      rw [bound_ok hk h0 hq]
      rfl
  split at h
  · rename_i l0 h0 e1 e2
    split at h
    · rename_i e3
      have hm : mx = none := by cases mx <;> simp at e3; rfl
      subst hm
      rcases ite_val h with ⟨⟨g1, g2, g3⟩, h⟩ | ⟨_, h⟩
      · refine ⟨l0.toNat, h0.toNat, cap, ?_, by omega, by omega, .inl ⟨rfl, rfl, h⟩⟩
        unfold Instr.sliceBounds
        simp only [Option.map_none]
        have hh : (match hi.map ρ with | some v => Instr.sliceBound v cap (if isS then BoundsCode.sliceAcap else BoundsCode.sliceAlen) | none => Sem.pure n) = Sem.pure h0.toNat := by
          cases hi with
          | none => cases e2; simp
          | some x =>
            obtain ⟨k, hk⟩ := asInt_of (hρ x) e2
            exact bound_ok hk (by omega) (by omega)
        simp only [Pure.pure, Bind.bind, Sem.bind]
        cases hi with
        | none =>
          cases e2
          simp only [Option.map_none, Sem.bind]
          rw [show ((n : Int)).toNat = n by omega]
          exact flo l0 e1 n _ (fun l => Sem.pure (l, n, cap)) g1 (by omega)
        | some x =>
          simp only [Option.map_some] at hh ⊢
          rw [hh]
          simp only [Sem.bind]
          exact flo l0 e1 h0.toNat _ (fun l => Sem.pure (l, h0.toNat, cap)) g1 (by omega)
      · cases h
    · rename_i a e3
      split at h
      · rename_i m _ e4 e5
        rcases ite_val h with ⟨⟨g1, g2, g3, g4⟩, h⟩ | ⟨_, h⟩
        · subst g4
          cases mx with
          | none => simp at e3
          | some y =>
            cases hi with
            | none => simp at e5
            | some x =>
              simp only [Option.map_some] at e2 e3 e4
              cases e3
              obtain ⟨k1, hk1⟩ := asInt_of (hρ x) e2
              obtain ⟨k2, hk2⟩ := asInt_of (hρ y) e4
              refine ⟨l0.toNat, m.toNat, m.toNat, ?_, by omega, by omega, .inr ⟨rfl, rfl, h⟩⟩
              unfold Instr.sliceBounds
              simp only [Option.map_some, Pure.pure, Bind.bind]
              rw [bound_ok hk2 (by omega) (by omega)]
              simp only [Sem.bind]
              rw [bound_ok hk1 (by omega) (by omega)]
              simp only [Sem.bind]
              exact flo l0 e1 m.toNat _ (fun l => Sem.pure (l, m.toNat, m.toNat)) g1 (by omega)
        · cases h
      · cases h
  · cases h
theorem Rep.cut (G : Good E) {v : Value} {t : Nat} {xs : List (Ty t)} (h : Rep E F w v (.sl false t xs)) {l q : Nat} (hlq : l ≤ q) (hq : q ≤ xs.length) {A : Option Addr} {c m : Nat} (hv : v = .slice A xs.length c) (hm : q ≤ m) (hmc : m ≤ c) :
    Rep E F w (.slice (if m = l then A else A.map (·.add (l * szOf E t))) (q - l) (m - l)) (.sl false t ((xs.drop l).take (q - l))) := by
  have hlen : ((xs.drop l).take (q - l)).length = q - l := by simp; omega
  by_cases hz : q - l = 0
  · have : ((xs.drop l).take (q - l)) = [] := by rw [hz]; rfl
    rw [this, hz]
    exact .nil _ _ _
  · cases h with
    | nil A' c' t' => simp at hq; omega
    | sl b off c' t' xs' g h1 h2 h3 =>
      injection hv with e1 e2 e3
      subst e1 e3
      have hml : ¬ m = l := by omega
      rw [if_neg hml]
      simp only [Option.map_some, addr_add]
      have hget : ∀ (i : Nat) x, ((xs.drop l).take (q - l))[i]? = some x → xs[l + i]? = some x := by
        intro i x e
        rw [List.getElem?_take] at e
        split at e
        · rw [List.getElem?_drop] at e; exact e
        · cases e
      have key := Rep.sl (E := E) (F := F) (w := w) b (off + l * szOf E t) (m - l) t ((xs.drop l).take (q - l)) (fun i o => g (l + i) o) (by omega) (fun i x o a e1 e2 => by
        have := h2 (l + i) x o a (hget i x e1) e2
        rw [Nat.add_mul] at this
        rw [show off + l * szOf E t + (i * szOf E t + o) = off + (l * szOf E t + i * szOf E t + o) by omega]
        exact this) (fun i x o a e1 e2 => h3 (l + i) x o a (hget i x e1) e2)
      rw [hlen] at key
      exact key
theorem ViewOk.cut {z n : Nat} {u : Value} {vw : Option (Nat × Nat)} {full f : Bool} {v : Value} {t : Nat} {xs : List (Ty t)} (h : ViewOk z n u vw full v) (hu : (∃ A, u = .slice A 0 0 ∧ n = 0) ∨ ∃ b off c, u = .slice (some ⟨b, off, none⟩) n c ∧ n ≤ c) (hn : xs.length = n)
    {A : Option Addr} {c : Nat} (hv : v = .slice A (vlen xs vw) c) {l q m : Nat} (hlq : l ≤ q) (hq : q ≤ vlen xs vw) (hm : q ≤ m) (hmc : m ≤ c) (hf : f = true → m = q) :
    ViewOk z n u (some (voff vw + l, q - l)) f (.slice (if m = l then A else A.map (·.add (l * z))) (q - l) (m - l)) := by
  have base : voff vw + q ≤ n := by
    cases vw with
    | none => simp [vlen, voff] at hq ⊢; omega
    | some ok => obtain ⟨o, k⟩ := ok; have := h.1; simp [vlen, voff] at hq ⊢; omega
  refine ⟨by omega, ?_⟩
  by_cases hml : m = l
  · rw [if_pos hml]
    left
    have : q = l := by omega
    subst this hml
    simp
  · rw [if_neg hml]
    cases vw with
    | none =>
      obtain ⟨rfl, _⟩ := h
      rcases hu with ⟨A', rfl, h0⟩ | ⟨b, off, c1, rfl, hnc⟩
      · injection hv with e1 e2 e3
        subst e3
        omega
      · injection hv with e1 e2 e3
        subst e1 e3
        right
        exact ⟨b, off, c1, m - l, rfl, by simp [voff, addr_add], by omega, by simp [voff]; omega, fun h => by have := hf h; omega⟩
    | some ok =>
      obtain ⟨o, k⟩ := ok
      obtain ⟨h1, ⟨hk, A', rfl⟩ | ⟨b, off, c1, c', rfl, rfl, h2, h3, h4⟩⟩ := h
      · injection hv with e1 e2 e3
        subst e3
        omega
      · injection hv with e1 e2 e3
        subst e1 e3
        right
        refine ⟨b, off, c1, m - l, rfl, ?_, by omega, by simp [voff]; omega, fun h => by have := hf h; omega⟩
        simp only [Option.map_some, addr_add, voff, Nat.add_mul]
        rw [show off + (o * z + l * z) = off + o * z + l * z by omega]
theorem DOk.struct {Z : TypeId → Nat → Prop} {fs : List (Nat × Nat)} {d : TypeDesc} (h : DOk Z (.struct fs) d) : ∃ gs, d = .struct gs ∧ gs.size = fs.length ∧ ∀ (i : Nat) (p : Nat × Nat), fs[i]? = some p → ∃ f : Field, gs[i]? = some f ∧ f.offset = p.1 ∧ f.type = p.2 ∧ ∃ z, Z p.2 z ∧ z ≠ 0 := by
  cases d <;> simp [DOk] at h
  exact ⟨_, rfl, h.1, fun i p hp => by
    obtain ⟨f, h1, h2, h3, h4⟩ := h.2 i p.1 p.2 hp
    exact ⟨f, h1, h2, h3, h4⟩⟩
theorem equalIn_bool {t : Nat} (h1 : P.underlying t = some .bool) (a b : Bool) (d : Nat) (w : World) : (Op.equalIn (d + 1) t (.bool a) (.bool b)).run P w = .ok (a == b) w := by
  simp only [Op.equalIn, Bind.bind]
  rw [run_underlying h1]
  rfl
theorem equal_bool {t : Nat} (h1 : P.underlying t = some .bool) (a b : Bool) (w : World) : (Op.equal t (.bool a) (.bool b)).run P w = .ok (a == b) w := equalIn_bool h1 a b 9999 w
theorem DOk.ptr {Z : TypeId → Nat → Prop} {e : Nat} {d : TypeDesc} (h : DOk Z (.ptr e) d) : d = .pointer e := by
  cases d <;> simp [DOk] at h
  subst h; rfl
theorem equalIn_ptr {t e : Nat} (h1 : P.underlying t = some (.pointer e)) (a : Addr) (d : Nat) (w : World) : (Op.equalIn (d + 1) t (.pointer (some a)) (.pointer none)).run P w = .ok false w := by
  simp only [Op.equalIn, Bind.bind]
  rw [run_underlying h1]
  rfl
theorem equal_ptr {t e : Nat} (h1 : P.underlying t = some (.pointer e)) (a : Addr) (w : World) : (Op.equal t (.pointer (some a)) (.pointer none)).run P w = .ok false w := equalIn_ptr h1 a 9999 w
theorem equalIn_slice {t e : Nat} (h1 : P.underlying t = some (.slice e)) (A : Option Addr) (n c d : Nat) (w : World) : (Op.equalIn (d + 1) t (.slice A n c) (.slice none 0 0)).run P w = .ok A.isNone w := by
  simp only [Op.equalIn, Bind.bind]
  rw [run_underlying h1]
  cases A <;> rfl
theorem equal_slice {t e : Nat} (h1 : P.underlying t = some (.slice e)) (A : Option Addr) (n c : Nat) (w : World) : (Op.equal t (.slice A n c) (.slice none 0 0)).run P w = .ok A.isNone w := equalIn_slice h1 A n c 9999 w
/-- A slice against nil, whatever is known of it. -/
theorem slice_nil {o : Oper} {op : BinOp} {t t' e : Nat} {x y : Operand} (ho : o.op = .binOp op t x y t') (h1 : P.underlying t = some (.slice e)) {ρ : Operand → Value} {A : Option Addr} {n c : Nat} (e1 : ρ x = .slice A n c) (e2 : ρ y = .slice none 0 0) :
    (op = .eql → (execOp ρ o).run P w = .ok (.value (.bool A.isNone)) w) ∧ (op = .neq → (execOp ρ o).run P w = .ok (.value (.bool (!A.isNone))) w) := by
  obtain ⟨dd, _, ty, pos, af, gd⟩ := o
  subst ho
  refine ⟨fun h => ?_, fun h => ?_⟩
  · subst h
    unfold execOp
    simp only [e1, e2]
    show (((Op.equal t (.slice A n c) (.slice none 0 0)).bind fun r => Sem.pure (Value.bool r)).bind fun v => Sem.pure (Next.value v)).run P w = _
    refine (Sem.run_bind (P := P) (w := w) ((Op.equal t (.slice A n c) (.slice none 0 0)).bind fun r => Sem.pure (Value.bool r)) _).trans ?_
    refine (congrArg (fun z => Result.andThen z _) (Sem.run_bind (P := P) (w := w) (Op.equal t (.slice A n c) (.slice none 0 0)) _)).trans ?_
    rw [equal_slice h1]
    rfl
  · subst h
    unfold execOp
    simp only [e1, e2]
    show (((Op.equal t (.slice A n c) (.slice none 0 0)).bind fun r => Sem.pure (Value.bool (!r))).bind fun v => Sem.pure (Next.value v)).run P w = _
    refine (Sem.run_bind (P := P) (w := w) ((Op.equal t (.slice A n c) (.slice none 0 0)).bind fun r => Sem.pure (Value.bool (!r))) _).trans ?_
    refine (congrArg (fun z => Result.andThen z _) (Sem.run_bind (P := P) (w := w) (Op.equal t (.slice A n c) (.slice none 0 0)) _)).trans ?_
    rw [equal_slice h1]
    rfl
theorem isPtr_val {v : Value} {a : AV Ty} (h : VRep E F w hp vals v a) (hp' : isPtr a = true) : ∃ ad, v = .pointer (some ad) := by
  cases a <;> first | (cases hp'; done) | skip
  · obtain ⟨_, _, _, _, _, _, _, _, e⟩ := h.ptr'
    exact ⟨_, e⟩
  · cases h with | rep _ _ h => cases h with | rp b off _ _ _ _ g => exact ⟨_, rfl⟩
variable {ρ : Operand → Value} {st : St Ty}
theorem binA_ok (K : TbOk E P) {op : BinOp} {t t' : Nat} {x y : Operand} {a b av : AV Ty} (hx : VRep E F w hp vals (ρ x) a) (hy : VRep E F w hp vals (ρ y) b) (h : (binA E op t a b).val = some av) (o : Oper) (ho : o.op = .binOp op t x y t') :
    ∃ v, (execOp ρ o).run P w = .ok (.value v) w ∧ VRep E F w hp vals v av := by
  unfold binA at h
  split at h
  · rename_i a b
    have e1 := hx.v
    have e2 := hy.v
    split at h
    · rename_i i1 i2 hi
      obtain ⟨d, h1, h2⟩ := K.und t _ hi
      have h3 := DOk.bool h2
      subst h3
      obtain ⟨dd, _, ty, pos, af, gd⟩ := o
      subst ho
      split at h
      · cases h
        refine ⟨_, ?_, .rep _ _ (.v _)⟩
        unfold execOp
        simp only [e1, e2]
        show (((Op.equal t (.bool a) (.bool b)).bind fun r => Sem.pure (Value.bool r)).bind fun v => Sem.pure (Next.value v)).run P w = _
        refine (Sem.run_bind (P := P) (w := w) ((Op.equal t (.bool a) (.bool b)).bind fun r => Sem.pure (Value.bool r)) _).trans ?_
        refine (congrArg (fun z => Result.andThen z _) (Sem.run_bind (P := P) (w := w) (Op.equal t (.bool a) (.bool b)) _)).trans ?_
        rw [equal_bool h1]
        rfl
      · cases h
        refine ⟨_, ?_, .rep _ _ (.v _)⟩
        unfold execOp
        simp only [e1, e2]
        show (((Op.equal t (.bool a) (.bool b)).bind fun r => Sem.pure (Value.bool (!r))).bind fun v => Sem.pure (Next.value v)).run P w = _
        refine (Sem.run_bind (P := P) (w := w) ((Op.equal t (.bool a) (.bool b)).bind fun r => Sem.pure (Value.bool (!r))) _).trans ?_
        refine (congrArg (fun z => Result.andThen z _) (Sem.run_bind (P := P) (w := w) (Op.equal t (.bool a) (.bool b)) _)).trans ?_
        rw [equal_bool h1]
        rfl
      · cases h
    · cases h
  · rename_i A n c
    split at h
    · rename_i i1 i2 e hi
      obtain ⟨d, h1, h2⟩ := K.und t _ hi
      have h3 := DOk.slice h2
      subst h3
      obtain ⟨k1, k2⟩ := slice_nil (w := w) ho h1 hx.v hy.v
      split at h
      · cases h; exact ⟨_, k1 rfl, .rep _ _ (.v _)⟩
      · cases h; exact ⟨_, k2 rfl, .rep _ _ (.v _)⟩
      · cases h
    · cases h
  · rename_i t2 xs
    split at h
    · rename_i i1 i2 e hi
      obtain ⟨d, h1, h2⟩ := K.und t _ hi
      have h3 := DOk.slice h2
      subst h3
      have hs := hx.sl
      have some_ : 0 < xs.length → ∃ A c, ρ x = .slice (some A) xs.length c := fun hp => by
        generalize hv : ρ x = v at hs
        cases hs with
        | nil A c t => simp at hp
        | sl b off c t xs g => exact ⟨_, c, rfl⟩
      split at h
      · rcases ite_val h with ⟨hp, h⟩ | ⟨_, h⟩
        · cases h
          obtain ⟨A, c, ex⟩ := some_ hp
          exact ⟨_, (slice_nil (w := w) ho h1 ex hy.v).1 rfl, .rep _ _ (.v _)⟩
        · cases h
      · rcases ite_val h with ⟨hp, h⟩ | ⟨_, h⟩
        · cases h
          obtain ⟨A, c, ex⟩ := some_ hp
          exact ⟨_, (slice_nil (w := w) ho h1 ex hy.v).2 rfl, .rep _ _ (.v _)⟩
        · cases h
      · cases h
    · cases h
  · obtain ⟨v, h1, h2⟩ := (T.val_bind _ _).1 h
    cases h2
    exact ⟨v, binV_ok ρ hx.v hy.v h1 w o ho, .rep _ _ (.v _)⟩
  · split at h
    · rename_i i1 i2 e hp' hi
      obtain ⟨ad, e1⟩ := isPtr_val hx hp'
      have e2 := hy.v
      obtain ⟨d, h1, h2⟩ := K.und t _ hi
      have h3 := DOk.ptr h2
      subst h3
      obtain ⟨dd, _, ty, pos, af, gd⟩ := o
      subst ho
      split at h
      · cases h
        refine ⟨_, ?_, .rep _ _ (.v _)⟩
        unfold execOp
        simp only [e1, e2]
        show (((Op.equal t (.pointer (some ad)) (.pointer none)).bind fun r => Sem.pure (Value.bool r)).bind fun v => Sem.pure (Next.value v)).run P w = _
        refine (Sem.run_bind (P := P) (w := w) ((Op.equal t (.pointer (some ad)) (.pointer none)).bind fun r => Sem.pure (Value.bool r)) _).trans ?_
        refine (congrArg (fun z => Result.andThen z _) (Sem.run_bind (P := P) (w := w) (Op.equal t (.pointer (some ad)) (.pointer none)) _)).trans ?_
        rw [equal_ptr h1]
        rfl
      · cases h
        refine ⟨_, ?_, .rep _ _ (.v _)⟩
        unfold execOp
        simp only [e1, e2]
        show (((Op.equal t (.pointer (some ad)) (.pointer none)).bind fun r => Sem.pure (Value.bool (!r))).bind fun v => Sem.pure (Next.value v)).run P w = _
        refine (Sem.run_bind (P := P) (w := w) ((Op.equal t (.pointer (some ad)) (.pointer none)).bind fun r => Sem.pure (Value.bool (!r))) _).trans ?_
        refine (congrArg (fun z => Result.andThen z _) (Sem.run_bind (P := P) (w := w) (Op.equal t (.pointer (some ad)) (.pointer none)) _)).trans ?_
        rw [equal_ptr h1]
        rfl
      · cases h
    · cases h
  · cases h
theorem unA_ok {op : UnOp} {t : Nat} {x : Operand} {a av : AV Ty} (hx : VRep E F w hp vals (ρ x) a) (h : (unA op a).val = some av) (o : Oper) (ho : o.op = .unOp op t x) : ∃ v, (execOp ρ o).run P w = .ok (.value v) w ∧ VRep E F w hp vals v av := by
  obtain ⟨dd, _, ty, pos, af, gd⟩ := o
  subst ho
  unfold unA at h
  split at h
  · have e := hx.v; cases h
    refine ⟨_, ?_, .rep _ _ (.v _)⟩
    unfold execOp
    simp [e, Op.unary, Op.intArith, Bind.bind, Sem.bind, Pure.pure, Sem.run]
  · have e := hx.v; cases h
    refine ⟨_, ?_, .rep _ _ (.v _)⟩
    unfold execOp
    simp [e, Op.unary, Op.intBits, bitsI, Bind.bind, Sem.bind, Pure.pure, Sem.run]
  · have e := hx.v; cases h
    refine ⟨_, ?_, .rep _ _ (.v _)⟩
    unfold execOp
    simp [e, Op.unary, Bind.bind, Sem.bind, Pure.pure, Sem.run]
  · cases h
theorem ptr_add {b off i o n : Nat} {z : Nat} : (⟨b, off + (i * z + o) + n, none⟩ : Addr) = ⟨b, off + (i * z + (o + n)), none⟩ := by rw [show off + (i * z + o) + n = off + (i * z + (o + n)) by omega]
theorem field_ok (K : TbOk E P) {s f : Nat} {x : Operand} {i : TI} {fs : List (Nat × Nat)} {q : Nat × Nat} (hi : E.ti s = some i) (hd : i.d = .struct fs) (hf : fs[f]? = some q) {a av : AV Ty} (hx : VRep E F w hp vals (ρ x) a)
    (h : (∃ r p k o, a = .ptr r p k o ∧ av = .ptr r p k (o + q.1)) ∨ ∃ t xs k o, a = .rp t xs k o ∧ av = .rp t xs k (o + q.1)) (o : Oper) (ho : o.op = .fieldAddr s x f) : ∃ v, (execOp ρ o).run P w = .ok (.value v) w ∧ VRep E F w hp vals v av := by
  obtain ⟨dd, _, ty, pos, af, gd⟩ := o
  subst ho
  rcases h with ⟨r, p, k, o, rfl, rfl⟩ | ⟨t, xs, k, o, rfl, rfl⟩
  · obtain ⟨R, b, off, c, row, h1, h2, h3, e⟩ := hx.ptr'
    refine ⟨_, okB rfl (by rw [e]; exact fieldAt_ok K hi hd hf b _ w), ?_⟩
    rw [ptr_add]
    exact .ptr _ _ _ _ R b off c row h1 h2 h3
  · have hr := hx.rp
    generalize hv : ρ x = v at hr
    cases hr with
    | rp b off _ _ _ _ g hk hc hr =>
    refine ⟨_, okB rfl (by rw [hv]; exact fieldAt_ok K hi hd hf b _ w), ?_⟩
    rw [ptr_add]
    exact .rep _ _ (.rp b off _ _ _ _ g hk hc hr)
theorem own_shape (G : Good E) (H : HRel E F w hp vals sets) {r : Nat} {p : Path} {R : Root Ty} {u : Value} {row : Row Ty} (h1 : root hp r = some R) (h2 : Loc E w R.m (vals r) R.t R.xs p u row) :
    (∃ A, u = .slice A 0 0 ∧ row.xs.length = 0) ∨ ∃ b off c, u = .slice (some ⟨b, off, none⟩) row.xs.length c ∧ row.xs.length ≤ c := by
  obtain ⟨S, hO⟩ := H.at G h1 h2
  rcases hO.inv with ⟨⟨A, e⟩, e2, _⟩ | ⟨b, off, c, g, B, e, O⟩
  · exact .inl ⟨A, e, by rw [e2]; rfl⟩
  · exact .inr ⟨b, off, c, e, O.le⟩
theorem index_ok (K : TbOk E P) (G : Good E) (H : HRel E F w hp vals sets) {t e : Nat} {i ie : TI} (hi : E.ti t = some i) (hd : i.d = .slice e) (he : E.ti e = some ie) {k : IntKind} {q : Int} {x ix : Operand} {a av : AV Ty} (hx : VRep E F w hp vals (ρ x) a) (hix : ρ ix = .int k q)
    (h : (indexT E hp ie q a).val = some av) (o : Oper) (ho : o.op = .indexAddr t x ix) : ∃ v, (execOp ρ o).run P w = .ok (.value v) w ∧ VRep E F w hp vals v av := by
  obtain ⟨dd, _, ty, pos, af, gd⟩ := o
  subst ho
  unfold indexT at h
  split at h
  · rename_i t' xs
    split at h
    · rename_i hz
      have hz := Nat.eq_of_beq_eq_true hz
      rcases ite_val h with ⟨g1, h⟩ | ⟨_, h⟩
      · rcases ite_val h with ⟨g2, h⟩ | ⟨_, h⟩
        · cases h
          have hr := hx.sl
          generalize hv : ρ x = v at hr
          cases hr with
          | nil A c _ => simp at g2; omega
          | sl b off c _ _ g hl hc hr =>
          refine ⟨_, okB rfl (by rw [hv, hix]; exact indexAt_ok K hi hd he b off xs.length c k q g1 g2 w), ?_⟩
          rw [← hz, show off + q.toNat * szOf E t' = off + (q.toNat * szOf E t' + 0) by omega]
          exact .rep _ _ (.rp b off t' xs q.toNat 0 g (by omega) hc hr)
        · cases h
      · cases h
    · cases h
  · rename_i r p vw full
    obtain ⟨R, u, row, h1, h2, h3⟩ := hx.ref'
    rw [rowAt_of h1 h2] at h
    simp only at h
    split at h
    · rename_i hz
      have hz := Nat.eq_of_beq_eq_true hz
      rcases ite_val h with ⟨g1, h⟩ | ⟨_, h⟩
      · rcases ite_val h with ⟨g2, h⟩ | ⟨_, h⟩
        · cases h
          have hsh := own_shape G H h1 h2
          cases vw with
          | none =>
            obtain ⟨hv, _⟩ := h3
            simp only [vlen] at g2
            rcases hsh with ⟨A, hu, hn⟩ | ⟨b, off, c, hu, _⟩
            · omega
            · refine ⟨_, okB rfl (by rw [hv, hu, hix]; exact indexAt_ok K hi hd he b off row.xs.length c k q g1 g2 w), ?_⟩
              rw [← hz, show off + q.toNat * szOf E row.t = off + ((voff none + q.toNat) * szOf E row.t + 0) by simp [voff]]
              exact .ptr r p _ 0 R b off c row h1 (hu ▸ h2) (by simp [voff]; omega)
          | some ok =>
            obtain ⟨o, n⟩ := ok
            simp only [vlen] at g2
            obtain ⟨hon, ⟨h0, _⟩ | ⟨b, off, c, c', hu, hv, _⟩⟩ := h3
            · omega
            · refine ⟨_, okB rfl (by rw [hv, hix]; exact indexAt_ok K hi hd he b _ n c' k q g1 g2 w), ?_⟩
              rw [← hz, show off + o * szOf E row.t + q.toNat * szOf E row.t = off + ((voff (some (o, n)) + q.toNat) * szOf E row.t + 0) by simp [voff, Nat.add_mul]; omega]
              exact .ptr r p _ 0 R b off c row h1 (hu ▸ h2) (by simp [voff]; omega)
        · cases h
      · cases h
    · cases h
  · cases h
end
end Go.Proofs.Ytnibdgjlbhdmfaa.Ev
