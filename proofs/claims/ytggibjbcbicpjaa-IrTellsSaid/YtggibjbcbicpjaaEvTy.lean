/- The types of the program, as the evaluator sees them. -/
import Derived.Test.YtggibjbcbicpjaaEvMc
import Derived.Test.YtggibjbcbicpjaaProg
namespace Go.Proofs.Ytggibjbcbicpjaa.Ev
open Go
set_option linter.unusedVariables false
set_option linter.unusedSimpArgs false
@[ext] structure Extern where
  name : ByteArray
  params : (List Int)
  result : Int
deriving Inhabited, DecidableEq
@[ext] structure Global where
  name : ByteArray
  cells : (List Int)
deriving Inhabited, DecidableEq
@[ext] structure Table where
  name : ByteArray
  funcs : (List Int)
deriving Inhabited, DecidableEq
@[ext] structure Ins where
  op : Int
  type_ : Int
  to_ : Int
  sym_ : Int
  num : Int
  args : (List Int)
  into : (List Int)
deriving Inhabited, DecidableEq
@[ext] structure Block where
  ins : (List Ins)
deriving Inhabited, DecidableEq
@[ext] structure Func where
  name : ByteArray
  out : Bool
  params : (List Int)
  result : Int
  blocks : (List Block)
deriving Inhabited, DecidableEq
@[ext] structure Module where
  externs : (List Extern)
  globals : (List Global)
  tables : (List Table)
  funcs : (List Func)
deriving Inhabited, DecidableEq
structure FFunc where
  x : Func
  q0 : Bool
  q1 : Bool
deriving Inhabited, DecidableEq
structure FIns where
  x : Ins
  q0 : Bool
  q1 : Bool
deriving Inhabited, DecidableEq
structure FExtern where
  x : Extern
  q0 : Bool
deriving Inhabited, DecidableEq
structure FGlobal where
  x : Global
  q0 : Bool
deriving Inhabited, DecidableEq
structure FTable where
  x : Table
  q0 : Bool
deriving Inhabited, DecidableEq
def Ty : Nat → Type
  | 2 => Int
  | 3 => Int
  | 4 => Bool
  | 6 => Int
  | 9 => ByteArray
  | 22 => (List Extern)
  | 23 => (List Global)
  | 24 => (List Table)
  | 25 => (List Func)
  | 27 => Module
  | 30 => (List Int)
  | 31 => (List Block)
  | 33 => Func
  | 42 => (List Ins)
  | 44 => Block
  | 46 => Ins
  | 52 => (List (List Int))
  | 71 => (List Bool)
  | 91 => Extern
  | 92 => (List Int)
  | 94 => Global
  | 96 => Table
  | 101 => (List (List Bool))
  | 1033 => FFunc
  | 1046 => FIns
  | 1091 => FExtern
  | 1094 => FGlobal
  | 1096 => FTable
  | _ => Unit
instance tyInh (t : Nat) : Inhabited (Ty t) := by unfold Ty; split <;> exact ⟨default⟩
def iD (k : IntKind) : AV Ty → Option Int
  | .v (.int k' n) => if k' = k then some n else none
  | _ => none
def bD : AV Ty → Option Bool
  | .v (.bool b) => some b
  | _ => none
def sD : AV Ty → Option ByteArray
  | .v (.string s) => some s
  | _ => none
def slD (m : Bool) (t : Nat) : AV Ty → Option (List (Ty t))
  | .sl b t' xs => match sameM b m with
    | true => castL t' t xs
    | false => none
  | _ => none
theorem iD_eq {k : IntKind} {a : AV Ty} {x : Int} (h : iD k a = some x) : a = .v (.int k x) := by
  unfold iD at h
  split at h
  · split at h
    · rename_i e; subst e; cases h; rfl
    · cases h
  · cases h
theorem bD_eq {a : AV Ty} {x : Bool} (h : bD a = some x) : a = .v (.bool x) := by
  unfold bD at h
  split at h
  · cases h; rfl
  · cases h
theorem sD_eq {a : AV Ty} {x : ByteArray} (h : sD a = some x) : a = .v (.string x) := by
  unfold sD at h
  split at h
  · cases h; rfl
  · cases h
theorem slD_eq {m : Bool} {t : Nat} {a : AV Ty} {xs : List (Ty t)} (h : slD m t a = some xs) : a = .sl m t xs := by
  unfold slD at h
  split at h
  · split at h
    · rename_i e
      obtain ⟨e1, e2⟩ := castL_eq h
      subst e1
      rw [e2, sameM_eq e]
    · cases h
  · cases h
/-- What a code must keep. -/
structure CodOk {t : Nat} (c : Cod Ty t) (flat : Bool) : Prop where
  len : ∀ m x, (c.enc m x).length = c.sz
  cell : ∀ m x a, a ∈ c.enc m x → (∃ y : Value, a = .v y ∧ oneC y = true) ∨ ∃ q t' ys, a = .sl q t' ys ∧ (q = true → m = true)
  dec : ∀ m cs x, c.dec m cs = some x → c.enc m x = cs
  flip : ∀ x (o : Nat) t' ys, (c.enc true x)[o]? = some (AV.sl true t' ys) → (c.enc false x)[o]? = some (AV.sl false t' ys)
  flat : flat = true → ∀ x, c.enc true x = c.enc false x ∧ ∀ m a, a ∈ c.enc m x → ∃ y, a = .v y
  flip' : ∀ x (o : Nat) a, (c.enc true x)[o]? = some a → ¬ isOwn a → (c.enc false x)[o]? = some a
theorem flips (l l' : List (AV Ty)) (h : l.length = l'.length) (hs : ∀ (o : Nat) a b, l[o]? = some a → l'[o]? = some b → (a = b ∧ ¬ isOwn a) ∨ ∃ t ys, a = .sl true t ys ∧ b = .sl false t ys) :
    (∀ (o : Nat) t' ys, l[o]? = some (AV.sl true t' ys) → l'[o]? = some (AV.sl false t' ys)) ∧ ∀ (o : Nat) a, l[o]? = some a → ¬ isOwn a → l'[o]? = some a := by
  refine ⟨fun o t ys e => ?_, fun o a e hn => ?_⟩
  · have hl : o < l'.length := by rw [← h]; exact get_lt e
    rcases hs o _ _ e (List.getElem?_eq_getElem hl) with ⟨_, h2⟩ | ⟨t', ys', h1, h2⟩
    · exact absurd trivial h2
    · injection h1 with e1 e2 e3
      subst e2
      cases e3
      rw [List.getElem?_eq_getElem hl, h2]
  · have hl : o < l'.length := by rw [← h]; exact get_lt e
    rcases hs o _ _ e (List.getElem?_eq_getElem hl) with ⟨h1, _⟩ | ⟨t', ys', h1, h2⟩
    · rw [List.getElem?_eq_getElem hl, ← h1]
    · rw [h1] at hn; exact absurd trivial hn
def codNone (t : Nat) : Cod Ty t := ⟨0, default, fun _ _ => [], fun _ l => match l with
  | [] => some default
  | _ => none⟩
theorem codNone_ok (t : Nat) (q : Bool) : CodOk (codNone t) q := by
  refine ⟨fun _ _ => rfl, fun m x a h => (by cases h), fun m cs x h => ?_, fun x o t' ys h => (by simp [codNone] at h), fun h x => ⟨rfl, fun m a h => (by cases h)⟩, fun x o a h => (by simp [codNone] at h)⟩
  unfold codNone at h ⊢
  simp only at h ⊢
  split at h
  · rfl
  · cases h
def cod2 : Cod Ty 2 := { sz := 1, zero := (0 : Int), enc := fun m (x : Int) => [.v (.int .i64 x)], dec := fun m l => match l with
  | [a0] => match iD .i64 a0 with
    | some x0 => some (x0 : Int)
    | _ => none
  | _ => none }
theorem cod2_ok : CodOk cod2 true := by
  have fl : ∀ x : Int, _ := fun x => flips (cod2.enc true x) (cod2.enc false x) rfl (fun o a b h h' => by
    have hlt : o < 1 := get_lt h
    match o, hlt with
    | 0, _ => cases h; cases h'; first | exact .inl ⟨rfl, fun h => h⟩ | exact .inr ⟨_, _, rfl, rfl⟩
    )
  refine ⟨fun m x => rfl, fun m x a h => ?_, fun m cs x h => ?_, fun x => (fl x).1, fun h x => ⟨rfl, fun m a h => ?_⟩, fun x => (fl x).2⟩
  · simp only [cod2, List.mem_cons, List.not_mem_nil, or_false] at h
    rcases h with rfl <;> first | exact .inl ⟨_, rfl, rfl⟩ | exact .inr ⟨_, _, _, rfl, fun h => h⟩ | exact .inr ⟨_, _, _, rfl, fun h => by cases h⟩
  · unfold cod2 at h ⊢
    simp only at h ⊢
    split at h
    · split at h
      · rename_i h0
        cases h
        rw [iD_eq h0]
      · cases h
    · cases h
  · simp only [cod2, List.mem_cons, List.not_mem_nil, or_false] at h
    rcases h with rfl <;> exact ⟨_, rfl⟩
def cod3 : Cod Ty 3 := { sz := 1, zero := (0 : Int), enc := fun m (x : Int) => [.v (.int .i64 x)], dec := fun m l => match l with
  | [a0] => match iD .i64 a0 with
    | some x0 => some (x0 : Int)
    | _ => none
  | _ => none }
theorem cod3_ok : CodOk cod3 true := by
  have fl : ∀ x : Int, _ := fun x => flips (cod3.enc true x) (cod3.enc false x) rfl (fun o a b h h' => by
    have hlt : o < 1 := get_lt h
    match o, hlt with
    | 0, _ => cases h; cases h'; first | exact .inl ⟨rfl, fun h => h⟩ | exact .inr ⟨_, _, rfl, rfl⟩
    )
  refine ⟨fun m x => rfl, fun m x a h => ?_, fun m cs x h => ?_, fun x => (fl x).1, fun h x => ⟨rfl, fun m a h => ?_⟩, fun x => (fl x).2⟩
  · simp only [cod3, List.mem_cons, List.not_mem_nil, or_false] at h
    rcases h with rfl <;> first | exact .inl ⟨_, rfl, rfl⟩ | exact .inr ⟨_, _, _, rfl, fun h => h⟩ | exact .inr ⟨_, _, _, rfl, fun h => by cases h⟩
  · unfold cod3 at h ⊢
    simp only at h ⊢
    split at h
    · split at h
      · rename_i h0
        cases h
        rw [iD_eq h0]
      · cases h
    · cases h
  · simp only [cod3, List.mem_cons, List.not_mem_nil, or_false] at h
    rcases h with rfl <;> exact ⟨_, rfl⟩
def cod4 : Cod Ty 4 := { sz := 1, zero := (false : Bool), enc := fun m (x : Bool) => [.v (.bool x)], dec := fun m l => match l with
  | [a0] => match bD a0 with
    | some x0 => some (x0 : Bool)
    | _ => none
  | _ => none }
theorem cod4_ok : CodOk cod4 true := by
  have fl : ∀ x : Bool, _ := fun x => flips (cod4.enc true x) (cod4.enc false x) rfl (fun o a b h h' => by
    have hlt : o < 1 := get_lt h
    match o, hlt with
    | 0, _ => cases h; cases h'; first | exact .inl ⟨rfl, fun h => h⟩ | exact .inr ⟨_, _, rfl, rfl⟩
    )
  refine ⟨fun m x => rfl, fun m x a h => ?_, fun m cs x h => ?_, fun x => (fl x).1, fun h x => ⟨rfl, fun m a h => ?_⟩, fun x => (fl x).2⟩
  · simp only [cod4, List.mem_cons, List.not_mem_nil, or_false] at h
    rcases h with rfl <;> first | exact .inl ⟨_, rfl, rfl⟩ | exact .inr ⟨_, _, _, rfl, fun h => h⟩ | exact .inr ⟨_, _, _, rfl, fun h => by cases h⟩
  · unfold cod4 at h ⊢
    simp only at h ⊢
    split at h
    · split at h
      · rename_i h0
        cases h
        rw [bD_eq h0]
      · cases h
    · cases h
  · simp only [cod4, List.mem_cons, List.not_mem_nil, or_false] at h
    rcases h with rfl <;> exact ⟨_, rfl⟩
def cod6 : Cod Ty 6 := { sz := 1, zero := (0 : Int), enc := fun m (x : Int) => [.v (.int .u8 x)], dec := fun m l => match l with
  | [a0] => match iD .u8 a0 with
    | some x0 => some (x0 : Int)
    | _ => none
  | _ => none }
theorem cod6_ok : CodOk cod6 true := by
  have fl : ∀ x : Int, _ := fun x => flips (cod6.enc true x) (cod6.enc false x) rfl (fun o a b h h' => by
    have hlt : o < 1 := get_lt h
    match o, hlt with
    | 0, _ => cases h; cases h'; first | exact .inl ⟨rfl, fun h => h⟩ | exact .inr ⟨_, _, rfl, rfl⟩
    )
  refine ⟨fun m x => rfl, fun m x a h => ?_, fun m cs x h => ?_, fun x => (fl x).1, fun h x => ⟨rfl, fun m a h => ?_⟩, fun x => (fl x).2⟩
  · simp only [cod6, List.mem_cons, List.not_mem_nil, or_false] at h
    rcases h with rfl <;> first | exact .inl ⟨_, rfl, rfl⟩ | exact .inr ⟨_, _, _, rfl, fun h => h⟩ | exact .inr ⟨_, _, _, rfl, fun h => by cases h⟩
  · unfold cod6 at h ⊢
    simp only at h ⊢
    split at h
    · split at h
      · rename_i h0
        cases h
        rw [iD_eq h0]
      · cases h
    · cases h
  · simp only [cod6, List.mem_cons, List.not_mem_nil, or_false] at h
    rcases h with rfl <;> exact ⟨_, rfl⟩
def cod9 : Cod Ty 9 := { sz := 1, zero := (ByteArray.empty : ByteArray), enc := fun m (x : ByteArray) => [.v (.string x)], dec := fun m l => match l with
  | [a0] => match sD a0 with
    | some x0 => some (x0 : ByteArray)
    | _ => none
  | _ => none }
theorem cod9_ok : CodOk cod9 true := by
  have fl : ∀ x : ByteArray, _ := fun x => flips (cod9.enc true x) (cod9.enc false x) rfl (fun o a b h h' => by
    have hlt : o < 1 := get_lt h
    match o, hlt with
    | 0, _ => cases h; cases h'; first | exact .inl ⟨rfl, fun h => h⟩ | exact .inr ⟨_, _, rfl, rfl⟩
    )
  refine ⟨fun m x => rfl, fun m x a h => ?_, fun m cs x h => ?_, fun x => (fl x).1, fun h x => ⟨rfl, fun m a h => ?_⟩, fun x => (fl x).2⟩
  · simp only [cod9, List.mem_cons, List.not_mem_nil, or_false] at h
    rcases h with rfl <;> first | exact .inl ⟨_, rfl, rfl⟩ | exact .inr ⟨_, _, _, rfl, fun h => h⟩ | exact .inr ⟨_, _, _, rfl, fun h => by cases h⟩
  · unfold cod9 at h ⊢
    simp only at h ⊢
    split at h
    · split at h
      · rename_i h0
        cases h
        rw [sD_eq h0]
      · cases h
    · cases h
  · simp only [cod9, List.mem_cons, List.not_mem_nil, or_false] at h
    rcases h with rfl <;> exact ⟨_, rfl⟩
def cod22 : Cod Ty 22 := { sz := 1, zero := ([] : (List Extern)), enc := fun m (x : (List Extern)) => [.sl m 91 x], dec := fun m l => match l with
  | [a0] => match slD m 91 a0 with
    | some x0 => some (x0 : (List Extern))
    | _ => none
  | _ => none }
theorem cod22_ok : CodOk cod22 false := by
  have fl : ∀ x : (List Extern), _ := fun x => flips (cod22.enc true x) (cod22.enc false x) rfl (fun o a b h h' => by
    have hlt : o < 1 := get_lt h
    match o, hlt with
    | 0, _ => cases h; cases h'; first | exact .inl ⟨rfl, fun h => h⟩ | exact .inr ⟨_, _, rfl, rfl⟩
    )
  refine ⟨fun m x => rfl, fun m x a h => ?_, fun m cs x h => ?_, fun x => (fl x).1, fun h x => (by cases h), fun x => (fl x).2⟩
  · simp only [cod22, List.mem_cons, List.not_mem_nil, or_false] at h
    rcases h with rfl <;> first | exact .inl ⟨_, rfl, rfl⟩ | exact .inr ⟨_, _, _, rfl, fun h => h⟩ | exact .inr ⟨_, _, _, rfl, fun h => by cases h⟩
  · unfold cod22 at h ⊢
    simp only at h ⊢
    split at h
    · split at h
      · rename_i h0
        cases h
        rw [slD_eq h0]
      · cases h
    · cases h
def cod23 : Cod Ty 23 := { sz := 1, zero := ([] : (List Global)), enc := fun m (x : (List Global)) => [.sl m 94 x], dec := fun m l => match l with
  | [a0] => match slD m 94 a0 with
    | some x0 => some (x0 : (List Global))
    | _ => none
  | _ => none }
theorem cod23_ok : CodOk cod23 false := by
  have fl : ∀ x : (List Global), _ := fun x => flips (cod23.enc true x) (cod23.enc false x) rfl (fun o a b h h' => by
    have hlt : o < 1 := get_lt h
    match o, hlt with
    | 0, _ => cases h; cases h'; first | exact .inl ⟨rfl, fun h => h⟩ | exact .inr ⟨_, _, rfl, rfl⟩
    )
  refine ⟨fun m x => rfl, fun m x a h => ?_, fun m cs x h => ?_, fun x => (fl x).1, fun h x => (by cases h), fun x => (fl x).2⟩
  · simp only [cod23, List.mem_cons, List.not_mem_nil, or_false] at h
    rcases h with rfl <;> first | exact .inl ⟨_, rfl, rfl⟩ | exact .inr ⟨_, _, _, rfl, fun h => h⟩ | exact .inr ⟨_, _, _, rfl, fun h => by cases h⟩
  · unfold cod23 at h ⊢
    simp only at h ⊢
    split at h
    · split at h
      · rename_i h0
        cases h
        rw [slD_eq h0]
      · cases h
    · cases h
def cod24 : Cod Ty 24 := { sz := 1, zero := ([] : (List Table)), enc := fun m (x : (List Table)) => [.sl m 96 x], dec := fun m l => match l with
  | [a0] => match slD m 96 a0 with
    | some x0 => some (x0 : (List Table))
    | _ => none
  | _ => none }
theorem cod24_ok : CodOk cod24 false := by
  have fl : ∀ x : (List Table), _ := fun x => flips (cod24.enc true x) (cod24.enc false x) rfl (fun o a b h h' => by
    have hlt : o < 1 := get_lt h
    match o, hlt with
    | 0, _ => cases h; cases h'; first | exact .inl ⟨rfl, fun h => h⟩ | exact .inr ⟨_, _, rfl, rfl⟩
    )
  refine ⟨fun m x => rfl, fun m x a h => ?_, fun m cs x h => ?_, fun x => (fl x).1, fun h x => (by cases h), fun x => (fl x).2⟩
  · simp only [cod24, List.mem_cons, List.not_mem_nil, or_false] at h
    rcases h with rfl <;> first | exact .inl ⟨_, rfl, rfl⟩ | exact .inr ⟨_, _, _, rfl, fun h => h⟩ | exact .inr ⟨_, _, _, rfl, fun h => by cases h⟩
  · unfold cod24 at h ⊢
    simp only at h ⊢
    split at h
    · split at h
      · rename_i h0
        cases h
        rw [slD_eq h0]
      · cases h
    · cases h
def cod25 : Cod Ty 25 := { sz := 1, zero := ([] : (List Func)), enc := fun m (x : (List Func)) => [.sl m 33 x], dec := fun m l => match l with
  | [a0] => match slD m 33 a0 with
    | some x0 => some (x0 : (List Func))
    | _ => none
  | _ => none }
theorem cod25_ok : CodOk cod25 false := by
  have fl : ∀ x : (List Func), _ := fun x => flips (cod25.enc true x) (cod25.enc false x) rfl (fun o a b h h' => by
    have hlt : o < 1 := get_lt h
    match o, hlt with
    | 0, _ => cases h; cases h'; first | exact .inl ⟨rfl, fun h => h⟩ | exact .inr ⟨_, _, rfl, rfl⟩
    )
  refine ⟨fun m x => rfl, fun m x a h => ?_, fun m cs x h => ?_, fun x => (fl x).1, fun h x => (by cases h), fun x => (fl x).2⟩
  · simp only [cod25, List.mem_cons, List.not_mem_nil, or_false] at h
    rcases h with rfl <;> first | exact .inl ⟨_, rfl, rfl⟩ | exact .inr ⟨_, _, _, rfl, fun h => h⟩ | exact .inr ⟨_, _, _, rfl, fun h => by cases h⟩
  · unfold cod25 at h ⊢
    simp only at h ⊢
    split at h
    · split at h
      · rename_i h0
        cases h
        rw [slD_eq h0]
      · cases h
    · cases h
def cod27 : Cod Ty 27 := { sz := 4, zero := (⟨[], [], [], []⟩ : Module), enc := fun m (x : Module) => [.sl m 91 x.externs, .sl m 94 x.globals, .sl m 96 x.tables, .sl m 33 x.funcs], dec := fun m l => match l with
  | [a0, a1, a2, a3] => match slD m 91 a0, slD m 94 a1, slD m 96 a2, slD m 33 a3 with
    | some x0, some x1, some x2, some x3 => some (⟨x0, x1, x2, x3⟩ : Module)
    | _, _, _, _ => none
  | _ => none }
theorem cod27_ok : CodOk cod27 false := by
  have fl : ∀ x : Module, _ := fun x => flips (cod27.enc true x) (cod27.enc false x) rfl (fun o a b h h' => by
    have hlt : o < 4 := get_lt h
    match o, hlt with
    | 0, _ => cases h; cases h'; first | exact .inl ⟨rfl, fun h => h⟩ | exact .inr ⟨_, _, rfl, rfl⟩
    | 1, _ => cases h; cases h'; first | exact .inl ⟨rfl, fun h => h⟩ | exact .inr ⟨_, _, rfl, rfl⟩
    | 2, _ => cases h; cases h'; first | exact .inl ⟨rfl, fun h => h⟩ | exact .inr ⟨_, _, rfl, rfl⟩
    | 3, _ => cases h; cases h'; first | exact .inl ⟨rfl, fun h => h⟩ | exact .inr ⟨_, _, rfl, rfl⟩
    )
  refine ⟨fun m x => rfl, fun m x a h => ?_, fun m cs x h => ?_, fun x => (fl x).1, fun h x => (by cases h), fun x => (fl x).2⟩
  · simp only [cod27, List.mem_cons, List.not_mem_nil, or_false] at h
    rcases h with rfl | rfl | rfl | rfl <;> first | exact .inl ⟨_, rfl, rfl⟩ | exact .inr ⟨_, _, _, rfl, fun h => h⟩ | exact .inr ⟨_, _, _, rfl, fun h => by cases h⟩
  · unfold cod27 at h ⊢
    simp only at h ⊢
    split at h
    · split at h
      · rename_i h0 h1 h2 h3
        cases h
        rw [slD_eq h0, slD_eq h1, slD_eq h2, slD_eq h3]
      · cases h
    · cases h
def cod30 : Cod Ty 30 := { sz := 1, zero := ([] : (List Int)), enc := fun m (x : (List Int)) => [.sl m 3 x], dec := fun m l => match l with
  | [a0] => match slD m 3 a0 with
    | some x0 => some (x0 : (List Int))
    | _ => none
  | _ => none }
theorem cod30_ok : CodOk cod30 false := by
  have fl : ∀ x : (List Int), _ := fun x => flips (cod30.enc true x) (cod30.enc false x) rfl (fun o a b h h' => by
    have hlt : o < 1 := get_lt h
    match o, hlt with
    | 0, _ => cases h; cases h'; first | exact .inl ⟨rfl, fun h => h⟩ | exact .inr ⟨_, _, rfl, rfl⟩
    )
  refine ⟨fun m x => rfl, fun m x a h => ?_, fun m cs x h => ?_, fun x => (fl x).1, fun h x => (by cases h), fun x => (fl x).2⟩
  · simp only [cod30, List.mem_cons, List.not_mem_nil, or_false] at h
    rcases h with rfl <;> first | exact .inl ⟨_, rfl, rfl⟩ | exact .inr ⟨_, _, _, rfl, fun h => h⟩ | exact .inr ⟨_, _, _, rfl, fun h => by cases h⟩
  · unfold cod30 at h ⊢
    simp only at h ⊢
    split at h
    · split at h
      · rename_i h0
        cases h
        rw [slD_eq h0]
      · cases h
    · cases h
def cod31 : Cod Ty 31 := { sz := 1, zero := ([] : (List Block)), enc := fun m (x : (List Block)) => [.sl m 44 x], dec := fun m l => match l with
  | [a0] => match slD m 44 a0 with
    | some x0 => some (x0 : (List Block))
    | _ => none
  | _ => none }
theorem cod31_ok : CodOk cod31 false := by
  have fl : ∀ x : (List Block), _ := fun x => flips (cod31.enc true x) (cod31.enc false x) rfl (fun o a b h h' => by
    have hlt : o < 1 := get_lt h
    match o, hlt with
    | 0, _ => cases h; cases h'; first | exact .inl ⟨rfl, fun h => h⟩ | exact .inr ⟨_, _, rfl, rfl⟩
    )
  refine ⟨fun m x => rfl, fun m x a h => ?_, fun m cs x h => ?_, fun x => (fl x).1, fun h x => (by cases h), fun x => (fl x).2⟩
  · simp only [cod31, List.mem_cons, List.not_mem_nil, or_false] at h
    rcases h with rfl <;> first | exact .inl ⟨_, rfl, rfl⟩ | exact .inr ⟨_, _, _, rfl, fun h => h⟩ | exact .inr ⟨_, _, _, rfl, fun h => by cases h⟩
  · unfold cod31 at h ⊢
    simp only at h ⊢
    split at h
    · split at h
      · rename_i h0
        cases h
        rw [slD_eq h0]
      · cases h
    · cases h
def cod33 : Cod Ty 33 := { sz := 5, zero := (⟨ByteArray.empty, false, [], 0, []⟩ : Func), enc := fun m (x : Func) => [.v (.string x.name), .v (.bool x.out), .sl m 3 x.params, .v (.int .i64 x.result), .sl m 44 x.blocks], dec := fun m l => match l with
  | [a0, a1, a2, a3, a4] => match sD a0, bD a1, slD m 3 a2, iD .i64 a3, slD m 44 a4 with
    | some x0, some x1, some x2, some x3, some x4 => some (⟨x0, x1, x2, x3, x4⟩ : Func)
    | _, _, _, _, _ => none
  | _ => none }
theorem cod33_ok : CodOk cod33 false := by
  have fl : ∀ x : Func, _ := fun x => flips (cod33.enc true x) (cod33.enc false x) rfl (fun o a b h h' => by
    have hlt : o < 5 := get_lt h
    match o, hlt with
    | 0, _ => cases h; cases h'; first | exact .inl ⟨rfl, fun h => h⟩ | exact .inr ⟨_, _, rfl, rfl⟩
    | 1, _ => cases h; cases h'; first | exact .inl ⟨rfl, fun h => h⟩ | exact .inr ⟨_, _, rfl, rfl⟩
    | 2, _ => cases h; cases h'; first | exact .inl ⟨rfl, fun h => h⟩ | exact .inr ⟨_, _, rfl, rfl⟩
    | 3, _ => cases h; cases h'; first | exact .inl ⟨rfl, fun h => h⟩ | exact .inr ⟨_, _, rfl, rfl⟩
    | 4, _ => cases h; cases h'; first | exact .inl ⟨rfl, fun h => h⟩ | exact .inr ⟨_, _, rfl, rfl⟩
    )
  refine ⟨fun m x => rfl, fun m x a h => ?_, fun m cs x h => ?_, fun x => (fl x).1, fun h x => (by cases h), fun x => (fl x).2⟩
  · simp only [cod33, List.mem_cons, List.not_mem_nil, or_false] at h
    rcases h with rfl | rfl | rfl | rfl | rfl <;> first | exact .inl ⟨_, rfl, rfl⟩ | exact .inr ⟨_, _, _, rfl, fun h => h⟩ | exact .inr ⟨_, _, _, rfl, fun h => by cases h⟩
  · unfold cod33 at h ⊢
    simp only at h ⊢
    split at h
    · split at h
      · rename_i h0 h1 h2 h3 h4
        cases h
        rw [sD_eq h0, bD_eq h1, slD_eq h2, iD_eq h3, slD_eq h4]
      · cases h
    · cases h
def cod42 : Cod Ty 42 := { sz := 1, zero := ([] : (List Ins)), enc := fun m (x : (List Ins)) => [.sl m 46 x], dec := fun m l => match l with
  | [a0] => match slD m 46 a0 with
    | some x0 => some (x0 : (List Ins))
    | _ => none
  | _ => none }
theorem cod42_ok : CodOk cod42 false := by
  have fl : ∀ x : (List Ins), _ := fun x => flips (cod42.enc true x) (cod42.enc false x) rfl (fun o a b h h' => by
    have hlt : o < 1 := get_lt h
    match o, hlt with
    | 0, _ => cases h; cases h'; first | exact .inl ⟨rfl, fun h => h⟩ | exact .inr ⟨_, _, rfl, rfl⟩
    )
  refine ⟨fun m x => rfl, fun m x a h => ?_, fun m cs x h => ?_, fun x => (fl x).1, fun h x => (by cases h), fun x => (fl x).2⟩
  · simp only [cod42, List.mem_cons, List.not_mem_nil, or_false] at h
    rcases h with rfl <;> first | exact .inl ⟨_, rfl, rfl⟩ | exact .inr ⟨_, _, _, rfl, fun h => h⟩ | exact .inr ⟨_, _, _, rfl, fun h => by cases h⟩
  · unfold cod42 at h ⊢
    simp only at h ⊢
    split at h
    · split at h
      · rename_i h0
        cases h
        rw [slD_eq h0]
      · cases h
    · cases h
def cod44 : Cod Ty 44 := { sz := 1, zero := (⟨[]⟩ : Block), enc := fun m (x : Block) => [.sl m 46 x.ins], dec := fun m l => match l with
  | [a0] => match slD m 46 a0 with
    | some x0 => some (⟨x0⟩ : Block)
    | _ => none
  | _ => none }
theorem cod44_ok : CodOk cod44 false := by
  have fl : ∀ x : Block, _ := fun x => flips (cod44.enc true x) (cod44.enc false x) rfl (fun o a b h h' => by
    have hlt : o < 1 := get_lt h
    match o, hlt with
    | 0, _ => cases h; cases h'; first | exact .inl ⟨rfl, fun h => h⟩ | exact .inr ⟨_, _, rfl, rfl⟩
    )
  refine ⟨fun m x => rfl, fun m x a h => ?_, fun m cs x h => ?_, fun x => (fl x).1, fun h x => (by cases h), fun x => (fl x).2⟩
  · simp only [cod44, List.mem_cons, List.not_mem_nil, or_false] at h
    rcases h with rfl <;> first | exact .inl ⟨_, rfl, rfl⟩ | exact .inr ⟨_, _, _, rfl, fun h => h⟩ | exact .inr ⟨_, _, _, rfl, fun h => by cases h⟩
  · unfold cod44 at h ⊢
    simp only at h ⊢
    split at h
    · split at h
      · rename_i h0
        cases h
        rw [slD_eq h0]
      · cases h
    · cases h
def cod46 : Cod Ty 46 := { sz := 7, zero := (⟨0, 0, 0, 0, 0, [], []⟩ : Ins), enc := fun m (x : Ins) => [.v (.int .i64 x.op), .v (.int .i64 x.type_), .v (.int .i64 x.to_), .v (.int .i64 x.sym_), .v (.int .i64 x.num), .sl m 3 x.args, .sl m 3 x.into], dec := fun m l => match l with
  | [a0, a1, a2, a3, a4, a5, a6] => match iD .i64 a0, iD .i64 a1, iD .i64 a2, iD .i64 a3, iD .i64 a4, slD m 3 a5, slD m 3 a6 with
    | some x0, some x1, some x2, some x3, some x4, some x5, some x6 => some (⟨x0, x1, x2, x3, x4, x5, x6⟩ : Ins)
    | _, _, _, _, _, _, _ => none
  | _ => none }
theorem cod46_ok : CodOk cod46 false := by
  have fl : ∀ x : Ins, _ := fun x => flips (cod46.enc true x) (cod46.enc false x) rfl (fun o a b h h' => by
    have hlt : o < 7 := get_lt h
    match o, hlt with
    | 0, _ => cases h; cases h'; first | exact .inl ⟨rfl, fun h => h⟩ | exact .inr ⟨_, _, rfl, rfl⟩
    | 1, _ => cases h; cases h'; first | exact .inl ⟨rfl, fun h => h⟩ | exact .inr ⟨_, _, rfl, rfl⟩
    | 2, _ => cases h; cases h'; first | exact .inl ⟨rfl, fun h => h⟩ | exact .inr ⟨_, _, rfl, rfl⟩
    | 3, _ => cases h; cases h'; first | exact .inl ⟨rfl, fun h => h⟩ | exact .inr ⟨_, _, rfl, rfl⟩
    | 4, _ => cases h; cases h'; first | exact .inl ⟨rfl, fun h => h⟩ | exact .inr ⟨_, _, rfl, rfl⟩
    | 5, _ => cases h; cases h'; first | exact .inl ⟨rfl, fun h => h⟩ | exact .inr ⟨_, _, rfl, rfl⟩
    | 6, _ => cases h; cases h'; first | exact .inl ⟨rfl, fun h => h⟩ | exact .inr ⟨_, _, rfl, rfl⟩
    )
  refine ⟨fun m x => rfl, fun m x a h => ?_, fun m cs x h => ?_, fun x => (fl x).1, fun h x => (by cases h), fun x => (fl x).2⟩
  · simp only [cod46, List.mem_cons, List.not_mem_nil, or_false] at h
    rcases h with rfl | rfl | rfl | rfl | rfl | rfl | rfl <;> first | exact .inl ⟨_, rfl, rfl⟩ | exact .inr ⟨_, _, _, rfl, fun h => h⟩ | exact .inr ⟨_, _, _, rfl, fun h => by cases h⟩
  · unfold cod46 at h ⊢
    simp only at h ⊢
    split at h
    · split at h
      · rename_i h0 h1 h2 h3 h4 h5 h6
        cases h
        rw [iD_eq h0, iD_eq h1, iD_eq h2, iD_eq h3, iD_eq h4, slD_eq h5, slD_eq h6]
      · cases h
    · cases h
def cod52 : Cod Ty 52 := { sz := 1, zero := ([] : (List (List Int))), enc := fun m (x : (List (List Int))) => [.sl m 30 x], dec := fun m l => match l with
  | [a0] => match slD m 30 a0 with
    | some x0 => some (x0 : (List (List Int)))
    | _ => none
  | _ => none }
theorem cod52_ok : CodOk cod52 false := by
  have fl : ∀ x : (List (List Int)), _ := fun x => flips (cod52.enc true x) (cod52.enc false x) rfl (fun o a b h h' => by
    have hlt : o < 1 := get_lt h
    match o, hlt with
    | 0, _ => cases h; cases h'; first | exact .inl ⟨rfl, fun h => h⟩ | exact .inr ⟨_, _, rfl, rfl⟩
    )
  refine ⟨fun m x => rfl, fun m x a h => ?_, fun m cs x h => ?_, fun x => (fl x).1, fun h x => (by cases h), fun x => (fl x).2⟩
  · simp only [cod52, List.mem_cons, List.not_mem_nil, or_false] at h
    rcases h with rfl <;> first | exact .inl ⟨_, rfl, rfl⟩ | exact .inr ⟨_, _, _, rfl, fun h => h⟩ | exact .inr ⟨_, _, _, rfl, fun h => by cases h⟩
  · unfold cod52 at h ⊢
    simp only at h ⊢
    split at h
    · split at h
      · rename_i h0
        cases h
        rw [slD_eq h0]
      · cases h
    · cases h
def cod71 : Cod Ty 71 := { sz := 1, zero := ([] : (List Bool)), enc := fun m (x : (List Bool)) => [.sl m 4 x], dec := fun m l => match l with
  | [a0] => match slD m 4 a0 with
    | some x0 => some (x0 : (List Bool))
    | _ => none
  | _ => none }
theorem cod71_ok : CodOk cod71 false := by
  have fl : ∀ x : (List Bool), _ := fun x => flips (cod71.enc true x) (cod71.enc false x) rfl (fun o a b h h' => by
    have hlt : o < 1 := get_lt h
    match o, hlt with
    | 0, _ => cases h; cases h'; first | exact .inl ⟨rfl, fun h => h⟩ | exact .inr ⟨_, _, rfl, rfl⟩
    )
  refine ⟨fun m x => rfl, fun m x a h => ?_, fun m cs x h => ?_, fun x => (fl x).1, fun h x => (by cases h), fun x => (fl x).2⟩
  · simp only [cod71, List.mem_cons, List.not_mem_nil, or_false] at h
    rcases h with rfl <;> first | exact .inl ⟨_, rfl, rfl⟩ | exact .inr ⟨_, _, _, rfl, fun h => h⟩ | exact .inr ⟨_, _, _, rfl, fun h => by cases h⟩
  · unfold cod71 at h ⊢
    simp only at h ⊢
    split at h
    · split at h
      · rename_i h0
        cases h
        rw [slD_eq h0]
      · cases h
    · cases h
def cod91 : Cod Ty 91 := { sz := 3, zero := (⟨ByteArray.empty, [], 0⟩ : Extern), enc := fun m (x : Extern) => [.v (.string x.name), .sl m 3 x.params, .v (.int .i64 x.result)], dec := fun m l => match l with
  | [a0, a1, a2] => match sD a0, slD m 3 a1, iD .i64 a2 with
    | some x0, some x1, some x2 => some (⟨x0, x1, x2⟩ : Extern)
    | _, _, _ => none
  | _ => none }
theorem cod91_ok : CodOk cod91 false := by
  have fl : ∀ x : Extern, _ := fun x => flips (cod91.enc true x) (cod91.enc false x) rfl (fun o a b h h' => by
    have hlt : o < 3 := get_lt h
    match o, hlt with
    | 0, _ => cases h; cases h'; first | exact .inl ⟨rfl, fun h => h⟩ | exact .inr ⟨_, _, rfl, rfl⟩
    | 1, _ => cases h; cases h'; first | exact .inl ⟨rfl, fun h => h⟩ | exact .inr ⟨_, _, rfl, rfl⟩
    | 2, _ => cases h; cases h'; first | exact .inl ⟨rfl, fun h => h⟩ | exact .inr ⟨_, _, rfl, rfl⟩
    )
  refine ⟨fun m x => rfl, fun m x a h => ?_, fun m cs x h => ?_, fun x => (fl x).1, fun h x => (by cases h), fun x => (fl x).2⟩
  · simp only [cod91, List.mem_cons, List.not_mem_nil, or_false] at h
    rcases h with rfl | rfl | rfl <;> first | exact .inl ⟨_, rfl, rfl⟩ | exact .inr ⟨_, _, _, rfl, fun h => h⟩ | exact .inr ⟨_, _, _, rfl, fun h => by cases h⟩
  · unfold cod91 at h ⊢
    simp only at h ⊢
    split at h
    · split at h
      · rename_i h0 h1 h2
        cases h
        rw [sD_eq h0, slD_eq h1, iD_eq h2]
      · cases h
    · cases h
def cod92 : Cod Ty 92 := { sz := 1, zero := ([] : (List Int)), enc := fun m (x : (List Int)) => [.sl m 2 x], dec := fun m l => match l with
  | [a0] => match slD m 2 a0 with
    | some x0 => some (x0 : (List Int))
    | _ => none
  | _ => none }
theorem cod92_ok : CodOk cod92 false := by
  have fl : ∀ x : (List Int), _ := fun x => flips (cod92.enc true x) (cod92.enc false x) rfl (fun o a b h h' => by
    have hlt : o < 1 := get_lt h
    match o, hlt with
    | 0, _ => cases h; cases h'; first | exact .inl ⟨rfl, fun h => h⟩ | exact .inr ⟨_, _, rfl, rfl⟩
    )
  refine ⟨fun m x => rfl, fun m x a h => ?_, fun m cs x h => ?_, fun x => (fl x).1, fun h x => (by cases h), fun x => (fl x).2⟩
  · simp only [cod92, List.mem_cons, List.not_mem_nil, or_false] at h
    rcases h with rfl <;> first | exact .inl ⟨_, rfl, rfl⟩ | exact .inr ⟨_, _, _, rfl, fun h => h⟩ | exact .inr ⟨_, _, _, rfl, fun h => by cases h⟩
  · unfold cod92 at h ⊢
    simp only at h ⊢
    split at h
    · split at h
      · rename_i h0
        cases h
        rw [slD_eq h0]
      · cases h
    · cases h
def cod94 : Cod Ty 94 := { sz := 2, zero := (⟨ByteArray.empty, []⟩ : Global), enc := fun m (x : Global) => [.v (.string x.name), .sl m 2 x.cells], dec := fun m l => match l with
  | [a0, a1] => match sD a0, slD m 2 a1 with
    | some x0, some x1 => some (⟨x0, x1⟩ : Global)
    | _, _ => none
  | _ => none }
theorem cod94_ok : CodOk cod94 false := by
  have fl : ∀ x : Global, _ := fun x => flips (cod94.enc true x) (cod94.enc false x) rfl (fun o a b h h' => by
    have hlt : o < 2 := get_lt h
    match o, hlt with
    | 0, _ => cases h; cases h'; first | exact .inl ⟨rfl, fun h => h⟩ | exact .inr ⟨_, _, rfl, rfl⟩
    | 1, _ => cases h; cases h'; first | exact .inl ⟨rfl, fun h => h⟩ | exact .inr ⟨_, _, rfl, rfl⟩
    )
  refine ⟨fun m x => rfl, fun m x a h => ?_, fun m cs x h => ?_, fun x => (fl x).1, fun h x => (by cases h), fun x => (fl x).2⟩
  · simp only [cod94, List.mem_cons, List.not_mem_nil, or_false] at h
    rcases h with rfl | rfl <;> first | exact .inl ⟨_, rfl, rfl⟩ | exact .inr ⟨_, _, _, rfl, fun h => h⟩ | exact .inr ⟨_, _, _, rfl, fun h => by cases h⟩
  · unfold cod94 at h ⊢
    simp only at h ⊢
    split at h
    · split at h
      · rename_i h0 h1
        cases h
        rw [sD_eq h0, slD_eq h1]
      · cases h
    · cases h
def cod96 : Cod Ty 96 := { sz := 2, zero := (⟨ByteArray.empty, []⟩ : Table), enc := fun m (x : Table) => [.v (.string x.name), .sl m 3 x.funcs], dec := fun m l => match l with
  | [a0, a1] => match sD a0, slD m 3 a1 with
    | some x0, some x1 => some (⟨x0, x1⟩ : Table)
    | _, _ => none
  | _ => none }
theorem cod96_ok : CodOk cod96 false := by
  have fl : ∀ x : Table, _ := fun x => flips (cod96.enc true x) (cod96.enc false x) rfl (fun o a b h h' => by
    have hlt : o < 2 := get_lt h
    match o, hlt with
    | 0, _ => cases h; cases h'; first | exact .inl ⟨rfl, fun h => h⟩ | exact .inr ⟨_, _, rfl, rfl⟩
    | 1, _ => cases h; cases h'; first | exact .inl ⟨rfl, fun h => h⟩ | exact .inr ⟨_, _, rfl, rfl⟩
    )
  refine ⟨fun m x => rfl, fun m x a h => ?_, fun m cs x h => ?_, fun x => (fl x).1, fun h x => (by cases h), fun x => (fl x).2⟩
  · simp only [cod96, List.mem_cons, List.not_mem_nil, or_false] at h
    rcases h with rfl | rfl <;> first | exact .inl ⟨_, rfl, rfl⟩ | exact .inr ⟨_, _, _, rfl, fun h => h⟩ | exact .inr ⟨_, _, _, rfl, fun h => by cases h⟩
  · unfold cod96 at h ⊢
    simp only at h ⊢
    split at h
    · split at h
      · rename_i h0 h1
        cases h
        rw [sD_eq h0, slD_eq h1]
      · cases h
    · cases h
def cod101 : Cod Ty 101 := { sz := 1, zero := ([] : (List (List Bool))), enc := fun m (x : (List (List Bool))) => [.sl m 71 x], dec := fun m l => match l with
  | [a0] => match slD m 71 a0 with
    | some x0 => some (x0 : (List (List Bool)))
    | _ => none
  | _ => none }
theorem cod101_ok : CodOk cod101 false := by
  have fl : ∀ x : (List (List Bool)), _ := fun x => flips (cod101.enc true x) (cod101.enc false x) rfl (fun o a b h h' => by
    have hlt : o < 1 := get_lt h
    match o, hlt with
    | 0, _ => cases h; cases h'; first | exact .inl ⟨rfl, fun h => h⟩ | exact .inr ⟨_, _, rfl, rfl⟩
    )
  refine ⟨fun m x => rfl, fun m x a h => ?_, fun m cs x h => ?_, fun x => (fl x).1, fun h x => (by cases h), fun x => (fl x).2⟩
  · simp only [cod101, List.mem_cons, List.not_mem_nil, or_false] at h
    rcases h with rfl <;> first | exact .inl ⟨_, rfl, rfl⟩ | exact .inr ⟨_, _, _, rfl, fun h => h⟩ | exact .inr ⟨_, _, _, rfl, fun h => by cases h⟩
  · unfold cod101 at h ⊢
    simp only at h ⊢
    split at h
    · split at h
      · rename_i h0
        cases h
        rw [slD_eq h0]
      · cases h
    · cases h
def slF (m : Bool) (t : Nat) : AV Ty → Option (Bool × List (Ty t))
  | .sl b t' xs => match m || !b with
    | true => match castL t' t xs with
      | some ys => some (b, ys)
      | none => none
    | false => none
  | _ => none
theorem slF_eq {m : Bool} {t : Nat} {a : AV Ty} {q : Bool} {xs : List (Ty t)} (h : slF m t a = some (q, xs)) : a = .sl (m && q) t xs := by
  unfold slF at h
  split at h
  · rename_i b t' zs
    split at h
    · rename_i e
      split at h
      · rename_i ys hc
        cases h
        obtain ⟨e1, e2⟩ := castL_eq hc
        subst e1
        rw [e2]
        cases m <;> cases q <;> first | rfl | cases e
      · cases h
    · cases h
  · cases h
def cod1033 : Cod Ty 1033 := { sz := 5, zero := (⟨⟨ByteArray.empty, false, [], 0, []⟩, true, true⟩ : FFunc), enc := fun m (x : FFunc) => [.v (.string x.x.name), .v (.bool x.x.out), .sl (m && x.q0) 3 x.x.params, .v (.int .i64 x.x.result), .sl (m && x.q1) 44 x.x.blocks], dec := fun m l => match l with
  | [a0, a1, a2, a3, a4] => match sD a0, bD a1, slF m 3 a2, iD .i64 a3, slF m 44 a4 with
    | some x0, some x1, some (q0, x2), some x3, some (q1, x4) => some (⟨⟨x0, x1, x2, x3, x4⟩, q0, q1⟩ : FFunc)
    | _, _, _, _, _ => none
  | _ => none }
theorem cod1033_ok : CodOk cod1033 false := by
  have fl : ∀ x : FFunc, _ := fun x => flips (cod1033.enc true x) (cod1033.enc false x) rfl (fun o a b h h' => by
    obtain ⟨x, q0, q1⟩ := x
    have hlt : o < 5 := get_lt h
    match o, hlt with
    | 0, _ => cases h; cases h'; exact .inl ⟨rfl, fun h => h⟩
    | 1, _ => cases h; cases h'; exact .inl ⟨rfl, fun h => h⟩
    | 2, _ => cases h; cases h'; cases q0; exact .inl ⟨rfl, fun h => h⟩; exact .inr ⟨_, _, rfl, rfl⟩
    | 3, _ => cases h; cases h'; exact .inl ⟨rfl, fun h => h⟩
    | 4, _ => cases h; cases h'; cases q1; exact .inl ⟨rfl, fun h => h⟩; exact .inr ⟨_, _, rfl, rfl⟩
    )
  refine ⟨fun m x => rfl, fun m x a h => ?_, fun m cs x h => ?_, fun x => (fl x).1, fun h x => (by cases h), fun x => (fl x).2⟩
  · simp only [cod1033, List.mem_cons, List.not_mem_nil, or_false] at h
    rcases h with rfl | rfl | rfl | rfl | rfl <;> first | exact .inl ⟨_, rfl, rfl⟩ | exact .inr ⟨_, _, _, rfl, fun h => (Bool.and_eq_true _ _ ▸ h : _ ∧ _).1⟩
  · unfold cod1033 at h ⊢
    simp only at h ⊢
    split at h
    · split at h
      · rename_i h0 h1 h2 h3 h4
        cases h
        rw [sD_eq h0, bD_eq h1, slF_eq h2, iD_eq h3, slF_eq h4]
      · cases h
    · cases h
def cod1046 : Cod Ty 1046 := { sz := 7, zero := (⟨⟨0, 0, 0, 0, 0, [], []⟩, true, true⟩ : FIns), enc := fun m (x : FIns) => [.v (.int .i64 x.x.op), .v (.int .i64 x.x.type_), .v (.int .i64 x.x.to_), .v (.int .i64 x.x.sym_), .v (.int .i64 x.x.num), .sl (m && x.q0) 3 x.x.args, .sl (m && x.q1) 3 x.x.into], dec := fun m l => match l with
  | [a0, a1, a2, a3, a4, a5, a6] => match iD .i64 a0, iD .i64 a1, iD .i64 a2, iD .i64 a3, iD .i64 a4, slF m 3 a5, slF m 3 a6 with
    | some x0, some x1, some x2, some x3, some x4, some (q0, x5), some (q1, x6) => some (⟨⟨x0, x1, x2, x3, x4, x5, x6⟩, q0, q1⟩ : FIns)
    | _, _, _, _, _, _, _ => none
  | _ => none }
theorem cod1046_ok : CodOk cod1046 false := by
  have fl : ∀ x : FIns, _ := fun x => flips (cod1046.enc true x) (cod1046.enc false x) rfl (fun o a b h h' => by
    obtain ⟨x, q0, q1⟩ := x
    have hlt : o < 7 := get_lt h
    match o, hlt with
    | 0, _ => cases h; cases h'; exact .inl ⟨rfl, fun h => h⟩
    | 1, _ => cases h; cases h'; exact .inl ⟨rfl, fun h => h⟩
    | 2, _ => cases h; cases h'; exact .inl ⟨rfl, fun h => h⟩
    | 3, _ => cases h; cases h'; exact .inl ⟨rfl, fun h => h⟩
    | 4, _ => cases h; cases h'; exact .inl ⟨rfl, fun h => h⟩
    | 5, _ => cases h; cases h'; cases q0; exact .inl ⟨rfl, fun h => h⟩; exact .inr ⟨_, _, rfl, rfl⟩
    | 6, _ => cases h; cases h'; cases q1; exact .inl ⟨rfl, fun h => h⟩; exact .inr ⟨_, _, rfl, rfl⟩
    )
  refine ⟨fun m x => rfl, fun m x a h => ?_, fun m cs x h => ?_, fun x => (fl x).1, fun h x => (by cases h), fun x => (fl x).2⟩
  · simp only [cod1046, List.mem_cons, List.not_mem_nil, or_false] at h
    rcases h with rfl | rfl | rfl | rfl | rfl | rfl | rfl <;> first | exact .inl ⟨_, rfl, rfl⟩ | exact .inr ⟨_, _, _, rfl, fun h => (Bool.and_eq_true _ _ ▸ h : _ ∧ _).1⟩
  · unfold cod1046 at h ⊢
    simp only at h ⊢
    split at h
    · split at h
      · rename_i h0 h1 h2 h3 h4 h5 h6
        cases h
        rw [iD_eq h0, iD_eq h1, iD_eq h2, iD_eq h3, iD_eq h4, slF_eq h5, slF_eq h6]
      · cases h
    · cases h
def cod1091 : Cod Ty 1091 := { sz := 3, zero := (⟨⟨ByteArray.empty, [], 0⟩, true⟩ : FExtern), enc := fun m (x : FExtern) => [.v (.string x.x.name), .sl (m && x.q0) 3 x.x.params, .v (.int .i64 x.x.result)], dec := fun m l => match l with
  | [a0, a1, a2] => match sD a0, slF m 3 a1, iD .i64 a2 with
    | some x0, some (q0, x1), some x2 => some (⟨⟨x0, x1, x2⟩, q0⟩ : FExtern)
    | _, _, _ => none
  | _ => none }
theorem cod1091_ok : CodOk cod1091 false := by
  have fl : ∀ x : FExtern, _ := fun x => flips (cod1091.enc true x) (cod1091.enc false x) rfl (fun o a b h h' => by
    obtain ⟨x, q0⟩ := x
    have hlt : o < 3 := get_lt h
    match o, hlt with
    | 0, _ => cases h; cases h'; exact .inl ⟨rfl, fun h => h⟩
    | 1, _ => cases h; cases h'; cases q0; exact .inl ⟨rfl, fun h => h⟩; exact .inr ⟨_, _, rfl, rfl⟩
    | 2, _ => cases h; cases h'; exact .inl ⟨rfl, fun h => h⟩
    )
  refine ⟨fun m x => rfl, fun m x a h => ?_, fun m cs x h => ?_, fun x => (fl x).1, fun h x => (by cases h), fun x => (fl x).2⟩
  · simp only [cod1091, List.mem_cons, List.not_mem_nil, or_false] at h
    rcases h with rfl | rfl | rfl <;> first | exact .inl ⟨_, rfl, rfl⟩ | exact .inr ⟨_, _, _, rfl, fun h => (Bool.and_eq_true _ _ ▸ h : _ ∧ _).1⟩
  · unfold cod1091 at h ⊢
    simp only at h ⊢
    split at h
    · split at h
      · rename_i h0 h1 h2
        cases h
        rw [sD_eq h0, slF_eq h1, iD_eq h2]
      · cases h
    · cases h
def cod1094 : Cod Ty 1094 := { sz := 2, zero := (⟨⟨ByteArray.empty, []⟩, true⟩ : FGlobal), enc := fun m (x : FGlobal) => [.v (.string x.x.name), .sl (m && x.q0) 2 x.x.cells], dec := fun m l => match l with
  | [a0, a1] => match sD a0, slF m 2 a1 with
    | some x0, some (q0, x1) => some (⟨⟨x0, x1⟩, q0⟩ : FGlobal)
    | _, _ => none
  | _ => none }
theorem cod1094_ok : CodOk cod1094 false := by
  have fl : ∀ x : FGlobal, _ := fun x => flips (cod1094.enc true x) (cod1094.enc false x) rfl (fun o a b h h' => by
    obtain ⟨x, q0⟩ := x
    have hlt : o < 2 := get_lt h
    match o, hlt with
    | 0, _ => cases h; cases h'; exact .inl ⟨rfl, fun h => h⟩
    | 1, _ => cases h; cases h'; cases q0; exact .inl ⟨rfl, fun h => h⟩; exact .inr ⟨_, _, rfl, rfl⟩
    )
  refine ⟨fun m x => rfl, fun m x a h => ?_, fun m cs x h => ?_, fun x => (fl x).1, fun h x => (by cases h), fun x => (fl x).2⟩
  · simp only [cod1094, List.mem_cons, List.not_mem_nil, or_false] at h
    rcases h with rfl | rfl <;> first | exact .inl ⟨_, rfl, rfl⟩ | exact .inr ⟨_, _, _, rfl, fun h => (Bool.and_eq_true _ _ ▸ h : _ ∧ _).1⟩
  · unfold cod1094 at h ⊢
    simp only at h ⊢
    split at h
    · split at h
      · rename_i h0 h1
        cases h
        rw [sD_eq h0, slF_eq h1]
      · cases h
    · cases h
def cod1096 : Cod Ty 1096 := { sz := 2, zero := (⟨⟨ByteArray.empty, []⟩, true⟩ : FTable), enc := fun m (x : FTable) => [.v (.string x.x.name), .sl (m && x.q0) 3 x.x.funcs], dec := fun m l => match l with
  | [a0, a1] => match sD a0, slF m 3 a1 with
    | some x0, some (q0, x1) => some (⟨⟨x0, x1⟩, q0⟩ : FTable)
    | _, _ => none
  | _ => none }
theorem cod1096_ok : CodOk cod1096 false := by
  have fl : ∀ x : FTable, _ := fun x => flips (cod1096.enc true x) (cod1096.enc false x) rfl (fun o a b h h' => by
    obtain ⟨x, q0⟩ := x
    have hlt : o < 2 := get_lt h
    match o, hlt with
    | 0, _ => cases h; cases h'; exact .inl ⟨rfl, fun h => h⟩
    | 1, _ => cases h; cases h'; cases q0; exact .inl ⟨rfl, fun h => h⟩; exact .inr ⟨_, _, rfl, rfl⟩
    )
  refine ⟨fun m x => rfl, fun m x a h => ?_, fun m cs x h => ?_, fun x => (fl x).1, fun h x => (by cases h), fun x => (fl x).2⟩
  · simp only [cod1096, List.mem_cons, List.not_mem_nil, or_false] at h
    rcases h with rfl | rfl <;> first | exact .inl ⟨_, rfl, rfl⟩ | exact .inr ⟨_, _, _, rfl, fun h => (Bool.and_eq_true _ _ ▸ h : _ ∧ _).1⟩
  · unfold cod1096 at h ⊢
    simp only at h ⊢
    split at h
    · split at h
      · rename_i h0 h1
        cases h
        rw [sD_eq h0, slF_eq h1]
      · cases h
    · cases h
def codA : (t : Nat) → Cod Ty t
  | 2 => cod2
  | 3 => cod3
  | 4 => cod4
  | 6 => cod6
  | 9 => cod9
  | 22 => cod22
  | 23 => cod23
  | 24 => cod24
  | 25 => cod25
  | 27 => cod27
  | 30 => cod30
  | 31 => cod31
  | 33 => cod33
  | 42 => cod42
  | 44 => cod44
  | 46 => cod46
  | 52 => cod52
  | 71 => cod71
  | 91 => cod91
  | 92 => cod92
  | 94 => cod94
  | 96 => cod96
  | 101 => cod101
  | 1033 => cod1033
  | 1046 => cod1046
  | 1091 => cod1091
  | 1094 => cod1094
  | 1096 => cod1096
  | t => codNone t
def flatA : Nat → Bool
  | 2 => true
  | 3 => true
  | 4 => true
  | 6 => true
  | 9 => true
  | _ => false
def soleA : Nat → Bool
  | 2 => true
  | 3 => true
  | 4 => true
  | 6 => true
  | 9 => true
  | 22 => true
  | 23 => true
  | 24 => true
  | 25 => true
  | 27 => true
  | 30 => true
  | 31 => true
  | 33 => true
  | 42 => true
  | 44 => true
  | 46 => true
  | 52 => true
  | 71 => true
  | 91 => true
  | 92 => true
  | 94 => true
  | 96 => true
  | 101 => true
  | _ => false
def hasA : Nat → Bool
  | 2 => true
  | 3 => true
  | 4 => true
  | 6 => true
  | 9 => true
  | 22 => true
  | 23 => true
  | 24 => true
  | 25 => true
  | 27 => true
  | 30 => true
  | 31 => true
  | 33 => true
  | 42 => true
  | 44 => true
  | 46 => true
  | 52 => true
  | 71 => true
  | 91 => true
  | 92 => true
  | 94 => true
  | 96 => true
  | 101 => true
  | _ => false
def tiA : Nat → Option TI
  | 2 => some ⟨1, 8, .int .i64⟩
  | 3 => some ⟨1, 8, .int .i64⟩
  | 4 => some ⟨1, 1, .bool⟩
  | 5 => some ⟨1, 1, .int .u8⟩
  | 6 => some ⟨1, 1, .int .u8⟩
  | 7 => some ⟨4, 24, .struct [(0, 2), (1, 3), (2, 4), (3, 6)]⟩
  | 8 => some ⟨4, 24, .struct [(0, 2), (1, 3), (2, 4), (3, 6)]⟩
  | 9 => some ⟨1, 16, .str⟩
  | 10 => some ⟨1, 16, .str⟩
  | 11 => some ⟨1, 16, .str⟩
  | 12 => some ⟨1, 8, .int .u64⟩
  | 13 => some ⟨2, 24, .struct [(0, 9), (1, 12)]⟩
  | 14 => some ⟨2, 24, .struct [(0, 9), (1, 12)]⟩
  | 15 => some ⟨1, 8, .ptr 186⟩
  | 16 => some ⟨1, 8, .ptr 189⟩
  | 17 => some ⟨1, 8, .ptr 198⟩
  | 18 => some ⟨1, 8, .struct [(0, 17)]⟩
  | 19 => some ⟨1, 8, .struct [(0, 17)]⟩
  | 21 => some ⟨1, 4, .int .i32⟩
  | 22 => some ⟨1, 24, .slice 91⟩
  | 23 => some ⟨1, 24, .slice 94⟩
  | 24 => some ⟨1, 24, .slice 96⟩
  | 25 => some ⟨1, 24, .slice 33⟩
  | 26 => some ⟨4, 96, .struct [(0, 22), (1, 23), (2, 24), (3, 25)]⟩
  | 27 => some ⟨4, 96, .struct [(0, 22), (1, 23), (2, 24), (3, 25)]⟩
  | 30 => some ⟨1, 24, .slice 3⟩
  | 31 => some ⟨1, 24, .slice 44⟩
  | 32 => some ⟨5, 80, .struct [(0, 9), (1, 4), (2, 30), (3, 3), (4, 31)]⟩
  | 33 => some ⟨5, 80, .struct [(0, 9), (1, 4), (2, 30), (3, 3), (4, 31)]⟩
  | 42 => some ⟨1, 24, .slice 46⟩
  | 43 => some ⟨1, 24, .struct [(0, 42)]⟩
  | 44 => some ⟨1, 24, .struct [(0, 42)]⟩
  | 45 => some ⟨7, 88, .struct [(0, 3), (1, 3), (2, 3), (3, 3), (4, 2), (5, 30), (6, 30)]⟩
  | 46 => some ⟨7, 88, .struct [(0, 3), (1, 3), (2, 3), (3, 3), (4, 2), (5, 30), (6, 30)]⟩
  | 47 => some ⟨1, 8, .ptr 46⟩
  | 52 => some ⟨1, 24, .slice 30⟩
  | 60 => some ⟨1, 8, .ptr 33⟩
  | 61 => some ⟨1, 8, .ptr 44⟩
  | 71 => some ⟨1, 24, .slice 4⟩
  | 74 => some ⟨1, 24, .slice 5⟩
  | 75 => some ⟨1, 8, .int .i64⟩
  | 90 => some ⟨3, 48, .struct [(0, 9), (1, 30), (2, 3)]⟩
  | 91 => some ⟨3, 48, .struct [(0, 9), (1, 30), (2, 3)]⟩
  | 92 => some ⟨1, 24, .slice 2⟩
  | 93 => some ⟨2, 40, .struct [(0, 9), (1, 92)]⟩
  | 94 => some ⟨2, 40, .struct [(0, 9), (1, 92)]⟩
  | 95 => some ⟨2, 40, .struct [(0, 9), (1, 30)]⟩
  | 96 => some ⟨2, 40, .struct [(0, 9), (1, 30)]⟩
  | 101 => some ⟨1, 24, .slice 71⟩
  | 102 => some ⟨1, 8, .ptr 104⟩
  | 103 => some ⟨8, 160, .struct [(0, 52), (1, 30), (2, 30), (3, 71), (4, 30), (5, 3), (6, 30), (7, 3)]⟩
  | 104 => some ⟨8, 160, .struct [(0, 52), (1, 30), (2, 30), (3, 71), (4, 30), (5, 3), (6, 30), (7, 3)]⟩
  | 118 => some ⟨1, 8, .ptr 120⟩
  | 119 => some ⟨1, 24, .struct [(0, 74)]⟩
  | 120 => some ⟨1, 24, .struct [(0, 74)]⟩
  | 129 => some ⟨1, 8, .ptr 131⟩
  | 130 => some ⟨3, 40, .struct [(0, 74), (1, 3), (2, 4)]⟩
  | 131 => some ⟨3, 40, .struct [(0, 74), (1, 3), (2, 4)]⟩
  | 137 => some ⟨1, 8, .ptr 139⟩
  | 138 => some ⟨3, 40, .struct [(0, 74), (1, 3), (2, 4)]⟩
  | 139 => some ⟨3, 40, .struct [(0, 74), (1, 3), (2, 4)]⟩
  | 141 => some ⟨2, 16, .struct [(0, 3), (1, 3)]⟩
  | 142 => some ⟨2, 16, .struct [(0, 3), (1, 3)]⟩
  | 143 => some ⟨1, 24, .slice 142⟩
  | 144 => some ⟨1, 8, .ptr 142⟩
  | 147 => some ⟨1, 8, .int .u64⟩
  | 148 => some ⟨1, 8, .int .u64⟩
  | 159 => some ⟨1, 24, .slice 162⟩
  | 162 => some ⟨2, 16, .arr 2 3⟩
  | 164 => some ⟨1, 24, .slice 9⟩
  | 175 => some ⟨1, 8, .ptr 178⟩
  | 177 => some ⟨8, 136, .struct [(0, 33), (5, 30), (6, 30), (7, 4)]⟩
  | 178 => some ⟨8, 136, .struct [(0, 33), (5, 30), (6, 30), (7, 4)]⟩
  | _ => none
def mapsA : Nat → Option (Option IntKind × IntKind)
  | 85 => some ((some .i64), .i64)
  | 154 => some (none, .i64)
  | _ => none
def tb : Tb Ty := ⟨codA, tiA, hasA, flatA, soleA, mapsA⟩
theorem codA_ok (t : Nat) : CodOk (codA t) (flatA t) := by
  unfold codA; split
  · exact cod2_ok
  · exact cod3_ok
  · exact cod4_ok
  · exact cod6_ok
  · exact cod9_ok
  · exact cod22_ok
  · exact cod23_ok
  · exact cod24_ok
  · exact cod25_ok
  · exact cod27_ok
  · exact cod30_ok
  · exact cod31_ok
  · exact cod33_ok
  · exact cod42_ok
  · exact cod44_ok
  · exact cod46_ok
  · exact cod52_ok
  · exact cod71_ok
  · exact cod91_ok
  · exact cod92_ok
  · exact cod94_ok
  · exact cod96_ok
  · exact cod101_ok
  · exact cod1033_ok
  · exact cod1046_ok
  · exact cod1091_ok
  · exact cod1094_ok
  · exact cod1096_ok
  · exact codNone_ok t _
theorem sole_ok : ∀ t, soleA t = true → ∀ x a, a ∈ (codA t).enc true x → (∃ y, a = .v y) ∨ ∃ t' ys, a = .sl true t' ys ∧ soleA t' = true := by
  intro t h
  unfold soleA at h
  split at h
  · intro x a h
    simp only [codA, cod2, List.mem_cons, List.not_mem_nil, or_false] at h
    rcases h with rfl <;> first | exact .inl ⟨_, rfl⟩ | exact .inr ⟨_, _, rfl, rfl⟩
  · intro x a h
    simp only [codA, cod3, List.mem_cons, List.not_mem_nil, or_false] at h
    rcases h with rfl <;> first | exact .inl ⟨_, rfl⟩ | exact .inr ⟨_, _, rfl, rfl⟩
  · intro x a h
    simp only [codA, cod4, List.mem_cons, List.not_mem_nil, or_false] at h
    rcases h with rfl <;> first | exact .inl ⟨_, rfl⟩ | exact .inr ⟨_, _, rfl, rfl⟩
  · intro x a h
    simp only [codA, cod6, List.mem_cons, List.not_mem_nil, or_false] at h
    rcases h with rfl <;> first | exact .inl ⟨_, rfl⟩ | exact .inr ⟨_, _, rfl, rfl⟩
  · intro x a h
    simp only [codA, cod9, List.mem_cons, List.not_mem_nil, or_false] at h
    rcases h with rfl <;> first | exact .inl ⟨_, rfl⟩ | exact .inr ⟨_, _, rfl, rfl⟩
  · intro x a h
    simp only [codA, cod22, List.mem_cons, List.not_mem_nil, or_false] at h
    rcases h with rfl <;> first | exact .inl ⟨_, rfl⟩ | exact .inr ⟨_, _, rfl, rfl⟩
  · intro x a h
    simp only [codA, cod23, List.mem_cons, List.not_mem_nil, or_false] at h
    rcases h with rfl <;> first | exact .inl ⟨_, rfl⟩ | exact .inr ⟨_, _, rfl, rfl⟩
  · intro x a h
    simp only [codA, cod24, List.mem_cons, List.not_mem_nil, or_false] at h
    rcases h with rfl <;> first | exact .inl ⟨_, rfl⟩ | exact .inr ⟨_, _, rfl, rfl⟩
  · intro x a h
    simp only [codA, cod25, List.mem_cons, List.not_mem_nil, or_false] at h
    rcases h with rfl <;> first | exact .inl ⟨_, rfl⟩ | exact .inr ⟨_, _, rfl, rfl⟩
  · intro x a h
    simp only [codA, cod27, List.mem_cons, List.not_mem_nil, or_false] at h
    rcases h with rfl | rfl | rfl | rfl <;> first | exact .inl ⟨_, rfl⟩ | exact .inr ⟨_, _, rfl, rfl⟩
  · intro x a h
    simp only [codA, cod30, List.mem_cons, List.not_mem_nil, or_false] at h
    rcases h with rfl <;> first | exact .inl ⟨_, rfl⟩ | exact .inr ⟨_, _, rfl, rfl⟩
  · intro x a h
    simp only [codA, cod31, List.mem_cons, List.not_mem_nil, or_false] at h
    rcases h with rfl <;> first | exact .inl ⟨_, rfl⟩ | exact .inr ⟨_, _, rfl, rfl⟩
  · intro x a h
    simp only [codA, cod33, List.mem_cons, List.not_mem_nil, or_false] at h
    rcases h with rfl | rfl | rfl | rfl | rfl <;> first | exact .inl ⟨_, rfl⟩ | exact .inr ⟨_, _, rfl, rfl⟩
  · intro x a h
    simp only [codA, cod42, List.mem_cons, List.not_mem_nil, or_false] at h
    rcases h with rfl <;> first | exact .inl ⟨_, rfl⟩ | exact .inr ⟨_, _, rfl, rfl⟩
  · intro x a h
    simp only [codA, cod44, List.mem_cons, List.not_mem_nil, or_false] at h
    rcases h with rfl <;> first | exact .inl ⟨_, rfl⟩ | exact .inr ⟨_, _, rfl, rfl⟩
  · intro x a h
    simp only [codA, cod46, List.mem_cons, List.not_mem_nil, or_false] at h
    rcases h with rfl | rfl | rfl | rfl | rfl | rfl | rfl <;> first | exact .inl ⟨_, rfl⟩ | exact .inr ⟨_, _, rfl, rfl⟩
  · intro x a h
    simp only [codA, cod52, List.mem_cons, List.not_mem_nil, or_false] at h
    rcases h with rfl <;> first | exact .inl ⟨_, rfl⟩ | exact .inr ⟨_, _, rfl, rfl⟩
  · intro x a h
    simp only [codA, cod71, List.mem_cons, List.not_mem_nil, or_false] at h
    rcases h with rfl <;> first | exact .inl ⟨_, rfl⟩ | exact .inr ⟨_, _, rfl, rfl⟩
  · intro x a h
    simp only [codA, cod91, List.mem_cons, List.not_mem_nil, or_false] at h
    rcases h with rfl | rfl | rfl <;> first | exact .inl ⟨_, rfl⟩ | exact .inr ⟨_, _, rfl, rfl⟩
  · intro x a h
    simp only [codA, cod92, List.mem_cons, List.not_mem_nil, or_false] at h
    rcases h with rfl <;> first | exact .inl ⟨_, rfl⟩ | exact .inr ⟨_, _, rfl, rfl⟩
  · intro x a h
    simp only [codA, cod94, List.mem_cons, List.not_mem_nil, or_false] at h
    rcases h with rfl | rfl <;> first | exact .inl ⟨_, rfl⟩ | exact .inr ⟨_, _, rfl, rfl⟩
  · intro x a h
    simp only [codA, cod96, List.mem_cons, List.not_mem_nil, or_false] at h
    rcases h with rfl | rfl <;> first | exact .inl ⟨_, rfl⟩ | exact .inr ⟨_, _, rfl, rfl⟩
  · intro x a h
    simp only [codA, cod101, List.mem_cons, List.not_mem_nil, or_false] at h
    rcases h with rfl <;> first | exact .inl ⟨_, rfl⟩ | exact .inr ⟨_, _, rfl, rfl⟩
  · cases h
theorem good : Good tb := ⟨fun t => (codA_ok t).len, fun t => (codA_ok t).cell, fun t => (codA_ok t).dec, fun t => (codA_ok t).flip, fun t => (codA_ok t).flat, fun t => (codA_ok t).flip', sole_ok⟩
end Go.Proofs.Ytggibjbcbicpjaa.Ev
