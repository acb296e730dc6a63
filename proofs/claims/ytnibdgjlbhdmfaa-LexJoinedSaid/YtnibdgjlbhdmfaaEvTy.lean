/- The types of the program, as the evaluator sees them. -/
import Derived.Test.YtnibdgjlbhdmfaaEvMc
import Derived.Test.YtnibdgjlbhdmfaaProg
namespace Go.Proofs.Ytnibdgjlbhdmfaa.Ev
open Go
set_option linter.unusedVariables false
set_option linter.unusedSimpArgs false
@[ext] structure Boundserror where
  x : Int
  y : Int
  signed : Bool
  code : Int
deriving Inhabited, DecidableEq
@[ext] structure Erroraddressstring where
  msg : ByteArray
  addr : Int
deriving Inhabited, DecidableEq
@[ext] structure Mem where
  l : (List (List Int))
deriving Inhabited, DecidableEq
@[ext] structure Act where
  op : Int
  obj : Int
  off : Int
  v_ : Int
  cells : (List Int)
deriving Inhabited, DecidableEq
@[ext] structure Word where
  text : ByteArray
  at_ : Int
deriving Inhabited, DecidableEq
@[ext] structure Line where
  words : (List Word)
deriving Inhabited, DecidableEq
@[ext] structure Mem72 where
  objects : (List (List Int))
deriving Inhabited, DecidableEq
def Ty : Nat → Type
  | 2 => Int
  | 3 => Int
  | 4 => Bool
  | 5 => Int
  | 6 => Int
  | 7 => Boundserror
  | 8 => Boundserror
  | 9 => ByteArray
  | 10 => ByteArray
  | 11 => ByteArray
  | 12 => Int
  | 13 => Erroraddressstring
  | 14 => Erroraddressstring
  | 21 => Int
  | 22 => (List Act)
  | 27 => (List (List Int))
  | 28 => Mem
  | 29 => Mem
  | 30 => (List Int)
  | 31 => Act
  | 32 => Act
  | 41 => Int
  | 43 => (List Line)
  | 44 => Int
  | 47 => (List Word)
  | 48 => Line
  | 49 => Line
  | 50 => Word
  | 51 => Word
  | 54 => (List Int)
  | 64 => Int
  | 72 => Mem72
  | 73 => Mem72
  | 83 => Int
  | 84 => Int
  | 85 => Int
  | 88 => Int
  | 89 => Int
  | _ => Unit
instance tyInh (t : Nat) : Inhabited (Ty t) := by unfold Ty; split <;> exact ⟨default⟩
def iD (k : IntKind) : AV Ty → Option Int
  | .v (.int k' n) => if k' = k then some n else none
  | _ => none
def bD : AV Ty → Option Bool
  | .v (.bool b) => some b
  | _ => none
def sD : AV Ty → Option ByteArray
  | .v (.string s) => some s
  | _ => none
def slD (m : Bool) (t : Nat) : AV Ty → Option (List (Ty t))
  | .sl b t' xs => match sameM b m with
    | true => castL t' t xs
    | false => none
  | _ => none
theorem iD_eq {k : IntKind} {a : AV Ty} {x : Int} (h : iD k a = some x) : a = .v (.int k x) := by
  unfold iD at h
  split at h
  · split at h
    · rename_i e; subst e; cases h; rfl
    · cases h
  · cases h
theorem bD_eq {a : AV Ty} {x : Bool} (h : bD a = some x) : a = .v (.bool x) := by
  unfold bD at h
  split at h
  · cases h; rfl
  · cases h
theorem sD_eq {a : AV Ty} {x : ByteArray} (h : sD a = some x) : a = .v (.string x) := by
  unfold sD at h
  split at h
  · cases h; rfl
  · cases h
theorem slD_eq {m : Bool} {t : Nat} {a : AV Ty} {xs : List (Ty t)} (h : slD m t a = some xs) : a = .sl m t xs := by
  unfold slD at h
  split at h
  · split at h
    · rename_i e
      obtain ⟨e1, e2⟩ := castL_eq h
      subst e1
      rw [e2, sameM_eq e]
    · cases h
  · cases h
/-- What a code must keep. -/
structure CodOk {t : Nat} (c : Cod Ty t) (flat : Bool) : Prop where
  len : ∀ m x, (c.enc m x).length = c.sz
  cell : ∀ m x a, a ∈ c.enc m x → (∃ y : Value, a = .v y ∧ oneC y = true) ∨ ∃ q t' ys, a = .sl q t' ys ∧ (q = true → m = true)
  dec : ∀ m cs x, c.dec m cs = some x → c.enc m x = cs
  flip : ∀ x (o : Nat) t' ys, (c.enc true x)[o]? = some (AV.sl true t' ys) → (c.enc false x)[o]? = some (AV.sl false t' ys)
  flat : flat = true → ∀ x, c.enc true x = c.enc false x ∧ ∀ m a, a ∈ c.enc m x → ∃ y, a = .v y
  flip' : ∀ x (o : Nat) a, (c.enc true x)[o]? = some a → ¬ isOwn a → (c.enc false x)[o]? = some a
theorem flips (l l' : List (AV Ty)) (h : l.length = l'.length) (hs : ∀ (o : Nat) a b, l[o]? = some a → l'[o]? = some b → (a = b ∧ ¬ isOwn a) ∨ ∃ t ys, a = .sl true t ys ∧ b = .sl false t ys) :
    (∀ (o : Nat) t' ys, l[o]? = some (AV.sl true t' ys) → l'[o]? = some (AV.sl false t' ys)) ∧ ∀ (o : Nat) a, l[o]? = some a → ¬ isOwn a → l'[o]? = some a := by
  refine ⟨fun o t ys e => ?_, fun o a e hn => ?_⟩
  · have hl : o < l'.length := by rw [← h]; exact get_lt e
    rcases hs o _ _ e (List.getElem?_eq_getElem hl) with ⟨_, h2⟩ | ⟨t', ys', h1, h2⟩
    · exact absurd trivial h2
    · injection h1 with e1 e2 e3
      subst e2
      cases e3
      rw [List.getElem?_eq_getElem hl, h2]
  · have hl : o < l'.length := by rw [← h]; exact get_lt e
    rcases hs o _ _ e (List.getElem?_eq_getElem hl) with ⟨h1, _⟩ | ⟨t', ys', h1, h2⟩
    · rw [List.getElem?_eq_getElem hl, ← h1]
    · rw [h1] at hn; exact absurd trivial hn
def codNone (t : Nat) : Cod Ty t := ⟨0, default, fun _ _ => [], fun _ l => match l with
  | [] => some default
  | _ => none⟩
theorem codNone_ok (t : Nat) (q : Bool) : CodOk (codNone t) q := by
  refine ⟨fun _ _ => rfl, fun m x a h => (by cases h), fun m cs x h => ?_, fun x o t' ys h => (by simp [codNone] at h), fun h x => ⟨rfl, fun m a h => (by cases h)⟩, fun x o a h => (by simp [codNone] at h)⟩
  unfold codNone at h ⊢
  simp only at h ⊢
  split at h
  · rfl
  · cases h
def cod2 : Cod Ty 2 := { sz := 1, zero := (0 : Int), enc := fun m (x : Int) => [.v (.int .i64 x)], dec := fun m l => match l with
  | [a0] => match iD .i64 a0 with
    | some x0 => some (x0 : Int)
    | _ => none
  | _ => none }
theorem cod2_ok : CodOk cod2 true := by
  have fl : ∀ x : Int, _ := fun x => flips (cod2.enc true x) (cod2.enc false x) rfl (fun o a b h h' => by
    have hlt : o < 1 := get_lt h
    match o, hlt with
    | 0, _ => cases h; cases h'; first | exact .inl ⟨rfl, fun h => h⟩ | exact .inr ⟨_, _, rfl, rfl⟩
    )
  refine ⟨fun m x => rfl, fun m x a h => ?_, fun m cs x h => ?_, fun x => (fl x).1, fun h x => ⟨rfl, fun m a h => ?_⟩, fun x => (fl x).2⟩
  · simp only [cod2, List.mem_cons, List.not_mem_nil, or_false] at h
    rcases h with rfl <;> first | exact .inl ⟨_, rfl, rfl⟩ | exact .inr ⟨_, _, _, rfl, fun h => h⟩ | exact .inr ⟨_, _, _, rfl, fun h => by cases h⟩
  · unfold cod2 at h ⊢
    simp only at h ⊢
    split at h
    · split at h
      · rename_i h0
        cases h
        rw [iD_eq h0]
      · cases h
    · cases h
  · simp only [cod2, List.mem_cons, List.not_mem_nil, or_false] at h
    rcases h with rfl <;> exact ⟨_, rfl⟩
def cod3 : Cod Ty 3 := { sz := 1, zero := (0 : Int), enc := fun m (x : Int) => [.v (.int .i64 x)], dec := fun m l => match l with
  | [a0] => match iD .i64 a0 with
    | some x0 => some (x0 : Int)
    | _ => none
  | _ => none }
theorem cod3_ok : CodOk cod3 true := by
  have fl : ∀ x : Int, _ := fun x => flips (cod3.enc true x) (cod3.enc false x) rfl (fun o a b h h' => by
    have hlt : o < 1 := get_lt h
    match o, hlt with
    | 0, _ => cases h; cases h'; first | exact .inl ⟨rfl, fun h => h⟩ | exact .inr ⟨_, _, rfl, rfl⟩
    )
  refine ⟨fun m x => rfl, fun m x a h => ?_, fun m cs x h => ?_, fun x => (fl x).1, fun h x => ⟨rfl, fun m a h => ?_⟩, fun x => (fl x).2⟩
  · simp only [cod3, List.mem_cons, List.not_mem_nil, or_false] at h
    rcases h with rfl <;> first | exact .inl ⟨_, rfl, rfl⟩ | exact .inr ⟨_, _, _, rfl, fun h => h⟩ | exact .inr ⟨_, _, _, rfl, fun h => by cases h⟩
  · unfold cod3 at h ⊢
    simp only at h ⊢
    split at h
    · split at h
      · rename_i h0
        cases h
        rw [iD_eq h0]
      · cases h
    · cases h
  · simp only [cod3, List.mem_cons, List.not_mem_nil, or_false] at h
    rcases h with rfl <;> exact ⟨_, rfl⟩
def cod4 : Cod Ty 4 := { sz := 1, zero := (false : Bool), enc := fun m (x : Bool) => [.v (.bool x)], dec := fun m l => match l with
  | [a0] => match bD a0 with
    | some x0 => some (x0 : Bool)
    | _ => none
  | _ => none }
theorem cod4_ok : CodOk cod4 true := by
  have fl : ∀ x : Bool, _ := fun x => flips (cod4.enc true x) (cod4.enc false x) rfl (fun o a b h h' => by
    have hlt : o < 1 := get_lt h
    match o, hlt with
    | 0, _ => cases h; cases h'; first | exact .inl ⟨rfl, fun h => h⟩ | exact .inr ⟨_, _, rfl, rfl⟩
    )
  refine ⟨fun m x => rfl, fun m x a h => ?_, fun m cs x h => ?_, fun x => (fl x).1, fun h x => ⟨rfl, fun m a h => ?_⟩, fun x => (fl x).2⟩
  · simp only [cod4, List.mem_cons, List.not_mem_nil, or_false] at h
    rcases h with rfl <;> first | exact .inl ⟨_, rfl, rfl⟩ | exact .inr ⟨_, _, _, rfl, fun h => h⟩ | exact .inr ⟨_, _, _, rfl, fun h => by cases h⟩
  · unfold cod4 at h ⊢
    simp only at h ⊢
    split at h
    · split at h
      · rename_i h0
        cases h
        rw [bD_eq h0]
      · cases h
    · cases h
  · simp only [cod4, List.mem_cons, List.not_mem_nil, or_false] at h
    rcases h with rfl <;> exact ⟨_, rfl⟩
def cod5 : Cod Ty 5 := { sz := 1, zero := (0 : Int), enc := fun m (x : Int) => [.v (.int .u8 x)], dec := fun m l => match l with
  | [a0] => match iD .u8 a0 with
    | some x0 => some (x0 : Int)
    | _ => none
  | _ => none }
theorem cod5_ok : CodOk cod5 true := by
  have fl : ∀ x : Int, _ := fun x => flips (cod5.enc true x) (cod5.enc false x) rfl (fun o a b h h' => by
    have hlt : o < 1 := get_lt h
    match o, hlt with
    | 0, _ => cases h; cases h'; first | exact .inl ⟨rfl, fun h => h⟩ | exact .inr ⟨_, _, rfl, rfl⟩
    )
  refine ⟨fun m x => rfl, fun m x a h => ?_, fun m cs x h => ?_, fun x => (fl x).1, fun h x => ⟨rfl, fun m a h => ?_⟩, fun x => (fl x).2⟩
  · simp only [cod5, List.mem_cons, List.not_mem_nil, or_false] at h
    rcases h with rfl <;> first | exact .inl ⟨_, rfl, rfl⟩ | exact .inr ⟨_, _, _, rfl, fun h => h⟩ | exact .inr ⟨_, _, _, rfl, fun h => by cases h⟩
  · unfold cod5 at h ⊢
    simp only at h ⊢
    split at h
    · split at h
      · rename_i h0
        cases h
        rw [iD_eq h0]
      · cases h
    · cases h
  · simp only [cod5, List.mem_cons, List.not_mem_nil, or_false] at h
    rcases h with rfl <;> exact ⟨_, rfl⟩
def cod6 : Cod Ty 6 := { sz := 1, zero := (0 : Int), enc := fun m (x : Int) => [.v (.int .u8 x)], dec := fun m l => match l with
  | [a0] => match iD .u8 a0 with
    | some x0 => some (x0 : Int)
    | _ => none
  | _ => none }
theorem cod6_ok : CodOk cod6 true := by
  have fl : ∀ x : Int, _ := fun x => flips (cod6.enc true x) (cod6.enc false x) rfl (fun o a b h h' => by
    have hlt : o < 1 := get_lt h
    match o, hlt with
    | 0, _ => cases h; cases h'; first | exact .inl ⟨rfl, fun h => h⟩ | exact .inr ⟨_, _, rfl, rfl⟩
    )
  refine ⟨fun m x => rfl, fun m x a h => ?_, fun m cs x h => ?_, fun x => (fl x).1, fun h x => ⟨rfl, fun m a h => ?_⟩, fun x => (fl x).2⟩
  · simp only [cod6, List.mem_cons, List.not_mem_nil, or_false] at h
    rcases h with rfl <;> first | exact .inl ⟨_, rfl, rfl⟩ | exact .inr ⟨_, _, _, rfl, fun h => h⟩ | exact .inr ⟨_, _, _, rfl, fun h => by cases h⟩
  · unfold cod6 at h ⊢
    simp only at h ⊢
    split at h
    · split at h
      · rename_i h0
        cases h
        rw [iD_eq h0]
      · cases h
    · cases h
  · simp only [cod6, List.mem_cons, List.not_mem_nil, or_false] at h
    rcases h with rfl <;> exact ⟨_, rfl⟩
def cod7 : Cod Ty 7 := { sz := 4, zero := (⟨0, 0, false, 0⟩ : Boundserror), enc := fun m (x : Boundserror) => [.v (.int .i64 x.x), .v (.int .i64 x.y), .v (.bool x.signed), .v (.int .u8 x.code)], dec := fun m l => match l with
  | [a0, a1, a2, a3] => match iD .i64 a0, iD .i64 a1, bD a2, iD .u8 a3 with
    | some x0, some x1, some x2, some x3 => some (⟨x0, x1, x2, x3⟩ : Boundserror)
    | _, _, _, _ => none
  | _ => none }
theorem cod7_ok : CodOk cod7 true := by
  have fl : ∀ x : Boundserror, _ := fun x => flips (cod7.enc true x) (cod7.enc false x) rfl (fun o a b h h' => by
    have hlt : o < 4 := get_lt h
    match o, hlt with
    | 0, _ => cases h; cases h'; first | exact .inl ⟨rfl, fun h => h⟩ | exact .inr ⟨_, _, rfl, rfl⟩
    | 1, _ => cases h; cases h'; first | exact .inl ⟨rfl, fun h => h⟩ | exact .inr ⟨_, _, rfl, rfl⟩
    | 2, _ => cases h; cases h'; first | exact .inl ⟨rfl, fun h => h⟩ | exact .inr ⟨_, _, rfl, rfl⟩
    | 3, _ => cases h; cases h'; first | exact .inl ⟨rfl, fun h => h⟩ | exact .inr ⟨_, _, rfl, rfl⟩
    )
  refine ⟨fun m x => rfl, fun m x a h => ?_, fun m cs x h => ?_, fun x => (fl x).1, fun h x => ⟨rfl, fun m a h => ?_⟩, fun x => (fl x).2⟩
  · simp only [cod7, List.mem_cons, List.not_mem_nil, or_false] at h
    rcases h with rfl | rfl | rfl | rfl <;> first | exact .inl ⟨_, rfl, rfl⟩ | exact .inr ⟨_, _, _, rfl, fun h => h⟩ | exact .inr ⟨_, _, _, rfl, fun h => by cases h⟩
  · unfold cod7 at h ⊢
    simp only at h ⊢
    split at h
    · split at h
      · rename_i h0 h1 h2 h3
        cases h
        rw [iD_eq h0, iD_eq h1, bD_eq h2, iD_eq h3]
      · cases h
    · cases h
  · simp only [cod7, List.mem_cons, List.not_mem_nil, or_false] at h
    rcases h with rfl | rfl | rfl | rfl <;> exact ⟨_, rfl⟩
def cod8 : Cod Ty 8 := { sz := 4, zero := (⟨0, 0, false, 0⟩ : Boundserror), enc := fun m (x : Boundserror) => [.v (.int .i64 x.x), .v (.int .i64 x.y), .v (.bool x.signed), .v (.int .u8 x.code)], dec := fun m l => match l with
  | [a0, a1, a2, a3] => match iD .i64 a0, iD .i64 a1, bD a2, iD .u8 a3 with
    | some x0, some x1, some x2, some x3 => some (⟨x0, x1, x2, x3⟩ : Boundserror)
    | _, _, _, _ => none
  | _ => none }
theorem cod8_ok : CodOk cod8 true := by
  have fl : ∀ x : Boundserror, _ := fun x => flips (cod8.enc true x) (cod8.enc false x) rfl (fun o a b h h' => by
    have hlt : o < 4 := get_lt h
    match o, hlt with
    | 0, _ => cases h; cases h'; first | exact .inl ⟨rfl, fun h => h⟩ | exact .inr ⟨_, _, rfl, rfl⟩
    | 1, _ => cases h; cases h'; first | exact .inl ⟨rfl, fun h => h⟩ | exact .inr ⟨_, _, rfl, rfl⟩
    | 2, _ => cases h; cases h'; first | exact .inl ⟨rfl, fun h => h⟩ | exact .inr ⟨_, _, rfl, rfl⟩
    | 3, _ => cases h; cases h'; first | exact .inl ⟨rfl, fun h => h⟩ | exact .inr ⟨_, _, rfl, rfl⟩
    )
  refine ⟨fun m x => rfl, fun m x a h => ?_, fun m cs x h => ?_, fun x => (fl x).1, fun h x => ⟨rfl, fun m a h => ?_⟩, fun x => (fl x).2⟩
  · simp only [cod8, List.mem_cons, List.not_mem_nil, or_false] at h
    rcases h with rfl | rfl | rfl | rfl <;> first | exact .inl ⟨_, rfl, rfl⟩ | exact .inr ⟨_, _, _, rfl, fun h => h⟩ | exact .inr ⟨_, _, _, rfl, fun h => by cases h⟩
  · unfold cod8 at h ⊢
    simp only at h ⊢
    split at h
    · split at h
      · rename_i h0 h1 h2 h3
        cases h
        rw [iD_eq h0, iD_eq h1, bD_eq h2, iD_eq h3]
      · cases h
    · cases h
  · simp only [cod8, List.mem_cons, List.not_mem_nil, or_false] at h
    rcases h with rfl | rfl | rfl | rfl <;> exact ⟨_, rfl⟩
def cod9 : Cod Ty 9 := { sz := 1, zero := (ByteArray.empty : ByteArray), enc := fun m (x : ByteArray) => [.v (.string x)], dec := fun m l => match l with
  | [a0] => match sD a0 with
    | some x0 => some (x0 : ByteArray)
    | _ => none
  | _ => none }
theorem cod9_ok : CodOk cod9 true := by
  have fl : ∀ x : ByteArray, _ := fun x => flips (cod9.enc true x) (cod9.enc false x) rfl (fun o a b h h' => by
    have hlt : o < 1 := get_lt h
    match o, hlt with
    | 0, _ => cases h; cases h'; first | exact .inl ⟨rfl, fun h => h⟩ | exact .inr ⟨_, _, rfl, rfl⟩
    )
  refine ⟨fun m x => rfl, fun m x a h => ?_, fun m cs x h => ?_, fun x => (fl x).1, fun h x => ⟨rfl, fun m a h => ?_⟩, fun x => (fl x).2⟩
  · simp only [cod9, List.mem_cons, List.not_mem_nil, or_false] at h
    rcases h with rfl <;> first | exact .inl ⟨_, rfl, rfl⟩ | exact .inr ⟨_, _, _, rfl, fun h => h⟩ | exact .inr ⟨_, _, _, rfl, fun h => by cases h⟩
  · unfold cod9 at h ⊢
    simp only at h ⊢
    split at h
    · split at h
      · rename_i h0
        cases h
        rw [sD_eq h0]
      · cases h
    · cases h
  · simp only [cod9, List.mem_cons, List.not_mem_nil, or_false] at h
    rcases h with rfl <;> exact ⟨_, rfl⟩
def cod10 : Cod Ty 10 := { sz := 1, zero := (ByteArray.empty : ByteArray), enc := fun m (x : ByteArray) => [.v (.string x)], dec := fun m l => match l with
  | [a0] => match sD a0 with
    | some x0 => some (x0 : ByteArray)
    | _ => none
  | _ => none }
theorem cod10_ok : CodOk cod10 true := by
  have fl : ∀ x : ByteArray, _ := fun x => flips (cod10.enc true x) (cod10.enc false x) rfl (fun o a b h h' => by
    have hlt : o < 1 := get_lt h
    match o, hlt with
    | 0, _ => cases h; cases h'; first | exact .inl ⟨rfl, fun h => h⟩ | exact .inr ⟨_, _, rfl, rfl⟩
    )
  refine ⟨fun m x => rfl, fun m x a h => ?_, fun m cs x h => ?_, fun x => (fl x).1, fun h x => ⟨rfl, fun m a h => ?_⟩, fun x => (fl x).2⟩
  · simp only [cod10, List.mem_cons, List.not_mem_nil, or_false] at h
    rcases h with rfl <;> first | exact .inl ⟨_, rfl, rfl⟩ | exact .inr ⟨_, _, _, rfl, fun h => h⟩ | exact .inr ⟨_, _, _, rfl, fun h => by cases h⟩
  · unfold cod10 at h ⊢
    simp only at h ⊢
    split at h
    · split at h
      · rename_i h0
        cases h
        rw [sD_eq h0]
      · cases h
    · cases h
  · simp only [cod10, List.mem_cons, List.not_mem_nil, or_false] at h
    rcases h with rfl <;> exact ⟨_, rfl⟩
def cod11 : Cod Ty 11 := { sz := 1, zero := (ByteArray.empty : ByteArray), enc := fun m (x : ByteArray) => [.v (.string x)], dec := fun m l => match l with
  | [a0] => match sD a0 with
    | some x0 => some (x0 : ByteArray)
    | _ => none
  | _ => none }
theorem cod11_ok : CodOk cod11 true := by
  have fl : ∀ x : ByteArray, _ := fun x => flips (cod11.enc true x) (cod11.enc false x) rfl (fun o a b h h' => by
    have hlt : o < 1 := get_lt h
    match o, hlt with
    | 0, _ => cases h; cases h'; first | exact .inl ⟨rfl, fun h => h⟩ | exact .inr ⟨_, _, rfl, rfl⟩
    )
  refine ⟨fun m x => rfl, fun m x a h => ?_, fun m cs x h => ?_, fun x => (fl x).1, fun h x => ⟨rfl, fun m a h => ?_⟩, fun x => (fl x).2⟩
  · simp only [cod11, List.mem_cons, List.not_mem_nil, or_false] at h
    rcases h with rfl <;> first | exact .inl ⟨_, rfl, rfl⟩ | exact .inr ⟨_, _, _, rfl, fun h => h⟩ | exact .inr ⟨_, _, _, rfl, fun h => by cases h⟩
  · unfold cod11 at h ⊢
    simp only at h ⊢
    split at h
    · split at h
      · rename_i h0
        cases h
        rw [sD_eq h0]
      · cases h
    · cases h
  · simp only [cod11, List.mem_cons, List.not_mem_nil, or_false] at h
    rcases h with rfl <;> exact ⟨_, rfl⟩
def cod12 : Cod Ty 12 := { sz := 1, zero := (0 : Int), enc := fun m (x : Int) => [.v (.int .u64 x)], dec := fun m l => match l with
  | [a0] => match iD .u64 a0 with
    | some x0 => some (x0 : Int)
    | _ => none
  | _ => none }
theorem cod12_ok : CodOk cod12 true := by
  have fl : ∀ x : Int, _ := fun x => flips (cod12.enc true x) (cod12.enc false x) rfl (fun o a b h h' => by
    have hlt : o < 1 := get_lt h
    match o, hlt with
    | 0, _ => cases h; cases h'; first | exact .inl ⟨rfl, fun h => h⟩ | exact .inr ⟨_, _, rfl, rfl⟩
    )
  refine ⟨fun m x => rfl, fun m x a h => ?_, fun m cs x h => ?_, fun x => (fl x).1, fun h x => ⟨rfl, fun m a h => ?_⟩, fun x => (fl x).2⟩
  · simp only [cod12, List.mem_cons, List.not_mem_nil, or_false] at h
    rcases h with rfl <;> first | exact .inl ⟨_, rfl, rfl⟩ | exact .inr ⟨_, _, _, rfl, fun h => h⟩ | exact .inr ⟨_, _, _, rfl, fun h => by cases h⟩
  · unfold cod12 at h ⊢
    simp only at h ⊢
    split at h
    · split at h
      · rename_i h0
        cases h
        rw [iD_eq h0]
      · cases h
    · cases h
  · simp only [cod12, List.mem_cons, List.not_mem_nil, or_false] at h
    rcases h with rfl <;> exact ⟨_, rfl⟩
def cod13 : Cod Ty 13 := { sz := 2, zero := (⟨ByteArray.empty, 0⟩ : Erroraddressstring), enc := fun m (x : Erroraddressstring) => [.v (.string x.msg), .v (.int .u64 x.addr)], dec := fun m l => match l with
  | [a0, a1] => match sD a0, iD .u64 a1 with
    | some x0, some x1 => some (⟨x0, x1⟩ : Erroraddressstring)
    | _, _ => none
  | _ => none }
theorem cod13_ok : CodOk cod13 true := by
  have fl : ∀ x : Erroraddressstring, _ := fun x => flips (cod13.enc true x) (cod13.enc false x) rfl (fun o a b h h' => by
    have hlt : o < 2 := get_lt h
    match o, hlt with
    | 0, _ => cases h; cases h'; first | exact .inl ⟨rfl, fun h => h⟩ | exact .inr ⟨_, _, rfl, rfl⟩
    | 1, _ => cases h; cases h'; first | exact .inl ⟨rfl, fun h => h⟩ | exact .inr ⟨_, _, rfl, rfl⟩
    )
  refine ⟨fun m x => rfl, fun m x a h => ?_, fun m cs x h => ?_, fun x => (fl x).1, fun h x => ⟨rfl, fun m a h => ?_⟩, fun x => (fl x).2⟩
  · simp only [cod13, List.mem_cons, List.not_mem_nil, or_false] at h
    rcases h with rfl | rfl <;> first | exact .inl ⟨_, rfl, rfl⟩ | exact .inr ⟨_, _, _, rfl, fun h => h⟩ | exact .inr ⟨_, _, _, rfl, fun h => by cases h⟩
  · unfold cod13 at h ⊢
    simp only at h ⊢
    split at h
    · split at h
      · rename_i h0 h1
        cases h
        rw [sD_eq h0, iD_eq h1]
      · cases h
    · cases h
  · simp only [cod13, List.mem_cons, List.not_mem_nil, or_false] at h
    rcases h with rfl | rfl <;> exact ⟨_, rfl⟩
def cod14 : Cod Ty 14 := { sz := 2, zero := (⟨ByteArray.empty, 0⟩ : Erroraddressstring), enc := fun m (x : Erroraddressstring) => [.v (.string x.msg), .v (.int .u64 x.addr)], dec := fun m l => match l with
  | [a0, a1] => match sD a0, iD .u64 a1 with
    | some x0, some x1 => some (⟨x0, x1⟩ : Erroraddressstring)
    | _, _ => none
  | _ => none }
theorem cod14_ok : CodOk cod14 true := by
  have fl : ∀ x : Erroraddressstring, _ := fun x => flips (cod14.enc true x) (cod14.enc false x) rfl (fun o a b h h' => by
    have hlt : o < 2 := get_lt h
    match o, hlt with
    | 0, _ => cases h; cases h'; first | exact .inl ⟨rfl, fun h => h⟩ | exact .inr ⟨_, _, rfl, rfl⟩
    | 1, _ => cases h; cases h'; first | exact .inl ⟨rfl, fun h => h⟩ | exact .inr ⟨_, _, rfl, rfl⟩
    )
  refine ⟨fun m x => rfl, fun m x a h => ?_, fun m cs x h => ?_, fun x => (fl x).1, fun h x => ⟨rfl, fun m a h => ?_⟩, fun x => (fl x).2⟩
  · simp only [cod14, List.mem_cons, List.not_mem_nil, or_false] at h
    rcases h with rfl | rfl <;> first | exact .inl ⟨_, rfl, rfl⟩ | exact .inr ⟨_, _, _, rfl, fun h => h⟩ | exact .inr ⟨_, _, _, rfl, fun h => by cases h⟩
  · unfold cod14 at h ⊢
    simp only at h ⊢
    split at h
    · split at h
      · rename_i h0 h1
        cases h
        rw [sD_eq h0, iD_eq h1]
      · cases h
    · cases h
  · simp only [cod14, List.mem_cons, List.not_mem_nil, or_false] at h
    rcases h with rfl | rfl <;> exact ⟨_, rfl⟩
def cod21 : Cod Ty 21 := { sz := 1, zero := (0 : Int), enc := fun m (x : Int) => [.v (.int .i32 x)], dec := fun m l => match l with
  | [a0] => match iD .i32 a0 with
    | some x0 => some (x0 : Int)
    | _ => none
  | _ => none }
theorem cod21_ok : CodOk cod21 true := by
  have fl : ∀ x : Int, _ := fun x => flips (cod21.enc true x) (cod21.enc false x) rfl (fun o a b h h' => by
    have hlt : o < 1 := get_lt h
    match o, hlt with
    | 0, _ => cases h; cases h'; first | exact .inl ⟨rfl, fun h => h⟩ | exact .inr ⟨_, _, rfl, rfl⟩
    )
  refine ⟨fun m x => rfl, fun m x a h => ?_, fun m cs x h => ?_, fun x => (fl x).1, fun h x => ⟨rfl, fun m a h => ?_⟩, fun x => (fl x).2⟩
  · simp only [cod21, List.mem_cons, List.not_mem_nil, or_false] at h
    rcases h with rfl <;> first | exact .inl ⟨_, rfl, rfl⟩ | exact .inr ⟨_, _, _, rfl, fun h => h⟩ | exact .inr ⟨_, _, _, rfl, fun h => by cases h⟩
  · unfold cod21 at h ⊢
    simp only at h ⊢
    split at h
    · split at h
      · rename_i h0
        cases h
        rw [iD_eq h0]
      · cases h
    · cases h
  · simp only [cod21, List.mem_cons, List.not_mem_nil, or_false] at h
    rcases h with rfl <;> exact ⟨_, rfl⟩
def cod22 : Cod Ty 22 := { sz := 1, zero := ([] : (List Act)), enc := fun m (x : (List Act)) => [.sl m 32 x], dec := fun m l => match l with
  | [a0] => match slD m 32 a0 with
    | some x0 => some (x0 : (List Act))
    | _ => none
  | _ => none }
theorem cod22_ok : CodOk cod22 false := by
  have fl : ∀ x : (List Act), _ := fun x => flips (cod22.enc true x) (cod22.enc false x) rfl (fun o a b h h' => by
    have hlt : o < 1 := get_lt h
    match o, hlt with
    | 0, _ => cases h; cases h'; first | exact .inl ⟨rfl, fun h => h⟩ | exact .inr ⟨_, _, rfl, rfl⟩
    )
  refine ⟨fun m x => rfl, fun m x a h => ?_, fun m cs x h => ?_, fun x => (fl x).1, fun h x => (by cases h), fun x => (fl x).2⟩
  · simp only [cod22, List.mem_cons, List.not_mem_nil, or_false] at h
    rcases h with rfl <;> first | exact .inl ⟨_, rfl, rfl⟩ | exact .inr ⟨_, _, _, rfl, fun h => h⟩ | exact .inr ⟨_, _, _, rfl, fun h => by cases h⟩
  · unfold cod22 at h ⊢
    simp only at h ⊢
    split at h
    · split at h
      · rename_i h0
        cases h
        rw [slD_eq h0]
      · cases h
    · cases h
def cod27 : Cod Ty 27 := { sz := 1, zero := ([] : (List (List Int))), enc := fun m (x : (List (List Int))) => [.sl m 30 x], dec := fun m l => match l with
  | [a0] => match slD m 30 a0 with
    | some x0 => some (x0 : (List (List Int)))
    | _ => none
  | _ => none }
theorem cod27_ok : CodOk cod27 false := by
  have fl : ∀ x : (List (List Int)), _ := fun x => flips (cod27.enc true x) (cod27.enc false x) rfl (fun o a b h h' => by
    have hlt : o < 1 := get_lt h
    match o, hlt with
    | 0, _ => cases h; cases h'; first | exact .inl ⟨rfl, fun h => h⟩ | exact .inr ⟨_, _, rfl, rfl⟩
    )
  refine ⟨fun m x => rfl, fun m x a h => ?_, fun m cs x h => ?_, fun x => (fl x).1, fun h x => (by cases h), fun x => (fl x).2⟩
  · simp only [cod27, List.mem_cons, List.not_mem_nil, or_false] at h
    rcases h with rfl <;> first | exact .inl ⟨_, rfl, rfl⟩ | exact .inr ⟨_, _, _, rfl, fun h => h⟩ | exact .inr ⟨_, _, _, rfl, fun h => by cases h⟩
  · unfold cod27 at h ⊢
    simp only at h ⊢
    split at h
    · split at h
      · rename_i h0
        cases h
        rw [slD_eq h0]
      · cases h
    · cases h
def cod28 : Cod Ty 28 := { sz := 1, zero := (⟨[]⟩ : Mem), enc := fun m (x : Mem) => [.sl m 30 x.l], dec := fun m l => match l with
  | [a0] => match slD m 30 a0 with
    | some x0 => some (⟨x0⟩ : Mem)
    | _ => none
  | _ => none }
theorem cod28_ok : CodOk cod28 false := by
  have fl : ∀ x : Mem, _ := fun x => flips (cod28.enc true x) (cod28.enc false x) rfl (fun o a b h h' => by
    have hlt : o < 1 := get_lt h
    match o, hlt with
    | 0, _ => cases h; cases h'; first | exact .inl ⟨rfl, fun h => h⟩ | exact .inr ⟨_, _, rfl, rfl⟩
    )
  refine ⟨fun m x => rfl, fun m x a h => ?_, fun m cs x h => ?_, fun x => (fl x).1, fun h x => (by cases h), fun x => (fl x).2⟩
  · simp only [cod28, List.mem_cons, List.not_mem_nil, or_false] at h
    rcases h with rfl <;> first | exact .inl ⟨_, rfl, rfl⟩ | exact .inr ⟨_, _, _, rfl, fun h => h⟩ | exact .inr ⟨_, _, _, rfl, fun h => by cases h⟩
  · unfold cod28 at h ⊢
    simp only at h ⊢
    split at h
    · split at h
      · rename_i h0
        cases h
        rw [slD_eq h0]
      · cases h
    · cases h
def cod29 : Cod Ty 29 := { sz := 1, zero := (⟨[]⟩ : Mem), enc := fun m (x : Mem) => [.sl m 30 x.l], dec := fun m l => match l with
  | [a0] => match slD m 30 a0 with
    | some x0 => some (⟨x0⟩ : Mem)
    | _ => none
  | _ => none }
theorem cod29_ok : CodOk cod29 false := by
  have fl : ∀ x : Mem, _ := fun x => flips (cod29.enc true x) (cod29.enc false x) rfl (fun o a b h h' => by
    have hlt : o < 1 := get_lt h
    match o, hlt with
    | 0, _ => cases h; cases h'; first | exact .inl ⟨rfl, fun h => h⟩ | exact .inr ⟨_, _, rfl, rfl⟩
    )
  refine ⟨fun m x => rfl, fun m x a h => ?_, fun m cs x h => ?_, fun x => (fl x).1, fun h x => (by cases h), fun x => (fl x).2⟩
  · simp only [cod29, List.mem_cons, List.not_mem_nil, or_false] at h
    rcases h with rfl <;> first | exact .inl ⟨_, rfl, rfl⟩ | exact .inr ⟨_, _, _, rfl, fun h => h⟩ | exact .inr ⟨_, _, _, rfl, fun h => by cases h⟩
  · unfold cod29 at h ⊢
    simp only at h ⊢
    split at h
    · split at h
      · rename_i h0
        cases h
        rw [slD_eq h0]
      · cases h
    · cases h
def cod30 : Cod Ty 30 := { sz := 1, zero := ([] : (List Int)), enc := fun m (x : (List Int)) => [.sl m 2 x], dec := fun m l => match l with
  | [a0] => match slD m 2 a0 with
    | some x0 => some (x0 : (List Int))
    | _ => none
  | _ => none }
theorem cod30_ok : CodOk cod30 false := by
  have fl : ∀ x : (List Int), _ := fun x => flips (cod30.enc true x) (cod30.enc false x) rfl (fun o a b h h' => by
    have hlt : o < 1 := get_lt h
    match o, hlt with
    | 0, _ => cases h; cases h'; first | exact .inl ⟨rfl, fun h => h⟩ | exact .inr ⟨_, _, rfl, rfl⟩
    )
  refine ⟨fun m x => rfl, fun m x a h => ?_, fun m cs x h => ?_, fun x => (fl x).1, fun h x => (by cases h), fun x => (fl x).2⟩
  · simp only [cod30, List.mem_cons, List.not_mem_nil, or_false] at h
    rcases h with rfl <;> first | exact .inl ⟨_, rfl, rfl⟩ | exact .inr ⟨_, _, _, rfl, fun h => h⟩ | exact .inr ⟨_, _, _, rfl, fun h => by cases h⟩
  · unfold cod30 at h ⊢
    simp only at h ⊢
    split at h
    · split at h
      · rename_i h0
        cases h
        rw [slD_eq h0]
      · cases h
    · cases h
def cod31 : Cod Ty 31 := { sz := 5, zero := (⟨0, 0, 0, 0, []⟩ : Act), enc := fun m (x : Act) => [.v (.int .i64 x.op), .v (.int .i64 x.obj), .v (.int .i64 x.off), .v (.int .i64 x.v_), .sl m 2 x.cells], dec := fun m l => match l with
  | [a0, a1, a2, a3, a4] => match iD .i64 a0, iD .i64 a1, iD .i64 a2, iD .i64 a3, slD m 2 a4 with
    | some x0, some x1, some x2, some x3, some x4 => some (⟨x0, x1, x2, x3, x4⟩ : Act)
    | _, _, _, _, _ => none
  | _ => none }
theorem cod31_ok : CodOk cod31 false := by
  have fl : ∀ x : Act, _ := fun x => flips (cod31.enc true x) (cod31.enc false x) rfl (fun o a b h h' => by
    have hlt : o < 5 := get_lt h
    match o, hlt with
    | 0, _ => cases h; cases h'; first | exact .inl ⟨rfl, fun h => h⟩ | exact .inr ⟨_, _, rfl, rfl⟩
    | 1, _ => cases h; cases h'; first | exact .inl ⟨rfl, fun h => h⟩ | exact .inr ⟨_, _, rfl, rfl⟩
    | 2, _ => cases h; cases h'; first | exact .inl ⟨rfl, fun h => h⟩ | exact .inr ⟨_, _, rfl, rfl⟩
    | 3, _ => cases h; cases h'; first | exact .inl ⟨rfl, fun h => h⟩ | exact .inr ⟨_, _, rfl, rfl⟩
    | 4, _ => cases h; cases h'; first | exact .inl ⟨rfl, fun h => h⟩ | exact .inr ⟨_, _, rfl, rfl⟩
    )
  refine ⟨fun m x => rfl, fun m x a h => ?_, fun m cs x h => ?_, fun x => (fl x).1, fun h x => (by cases h), fun x => (fl x).2⟩
  · simp only [cod31, List.mem_cons, List.not_mem_nil, or_false] at h
    rcases h with rfl | rfl | rfl | rfl | rfl <;> first | exact .inl ⟨_, rfl, rfl⟩ | exact .inr ⟨_, _, _, rfl, fun h => h⟩ | exact .inr ⟨_, _, _, rfl, fun h => by cases h⟩
  · unfold cod31 at h ⊢
    simp only at h ⊢
    split at h
    · split at h
      · rename_i h0 h1 h2 h3 h4
        cases h
        rw [iD_eq h0, iD_eq h1, iD_eq h2, iD_eq h3, slD_eq h4]
      · cases h
    · cases h
def cod32 : Cod Ty 32 := { sz := 5, zero := (⟨0, 0, 0, 0, []⟩ : Act), enc := fun m (x : Act) => [.v (.int .i64 x.op), .v (.int .i64 x.obj), .v (.int .i64 x.off), .v (.int .i64 x.v_), .sl m 2 x.cells], dec := fun m l => match l with
  | [a0, a1, a2, a3, a4] => match iD .i64 a0, iD .i64 a1, iD .i64 a2, iD .i64 a3, slD m 2 a4 with
    | some x0, some x1, some x2, some x3, some x4 => some (⟨x0, x1, x2, x3, x4⟩ : Act)
    | _, _, _, _, _ => none
  | _ => none }
theorem cod32_ok : CodOk cod32 false := by
  have fl : ∀ x : Act, _ := fun x => flips (cod32.enc true x) (cod32.enc false x) rfl (fun o a b h h' => by
    have hlt : o < 5 := get_lt h
    match o, hlt with
    | 0, _ => cases h; cases h'; first | exact .inl ⟨rfl, fun h => h⟩ | exact .inr ⟨_, _, rfl, rfl⟩
    | 1, _ => cases h; cases h'; first | exact .inl ⟨rfl, fun h => h⟩ | exact .inr ⟨_, _, rfl, rfl⟩
    | 2, _ => cases h; cases h'; first | exact .inl ⟨rfl, fun h => h⟩ | exact .inr ⟨_, _, rfl, rfl⟩
    | 3, _ => cases h; cases h'; first | exact .inl ⟨rfl, fun h => h⟩ | exact .inr ⟨_, _, rfl, rfl⟩
    | 4, _ => cases h; cases h'; first | exact .inl ⟨rfl, fun h => h⟩ | exact .inr ⟨_, _, rfl, rfl⟩
    )
  refine ⟨fun m x => rfl, fun m x a h => ?_, fun m cs x h => ?_, fun x => (fl x).1, fun h x => (by cases h), fun x => (fl x).2⟩
  · simp only [cod32, List.mem_cons, List.not_mem_nil, or_false] at h
    rcases h with rfl | rfl | rfl | rfl | rfl <;> first | exact .inl ⟨_, rfl, rfl⟩ | exact .inr ⟨_, _, _, rfl, fun h => h⟩ | exact .inr ⟨_, _, _, rfl, fun h => by cases h⟩
  · unfold cod32 at h ⊢
    simp only at h ⊢
    split at h
    · split at h
      · rename_i h0 h1 h2 h3 h4
        cases h
        rw [iD_eq h0, iD_eq h1, iD_eq h2, iD_eq h3, slD_eq h4]
      · cases h
    · cases h
def cod41 : Cod Ty 41 := { sz := 1, zero := (0 : Int), enc := fun m (x : Int) => [.v (.int .u64 x)], dec := fun m l => match l with
  | [a0] => match iD .u64 a0 with
    | some x0 => some (x0 : Int)
    | _ => none
  | _ => none }
theorem cod41_ok : CodOk cod41 true := by
  have fl : ∀ x : Int, _ := fun x => flips (cod41.enc true x) (cod41.enc false x) rfl (fun o a b h h' => by
    have hlt : o < 1 := get_lt h
    match o, hlt with
    | 0, _ => cases h; cases h'; first | exact .inl ⟨rfl, fun h => h⟩ | exact .inr ⟨_, _, rfl, rfl⟩
    )
  refine ⟨fun m x => rfl, fun m x a h => ?_, fun m cs x h => ?_, fun x => (fl x).1, fun h x => ⟨rfl, fun m a h => ?_⟩, fun x => (fl x).2⟩
  · simp only [cod41, List.mem_cons, List.not_mem_nil, or_false] at h
    rcases h with rfl <;> first | exact .inl ⟨_, rfl, rfl⟩ | exact .inr ⟨_, _, _, rfl, fun h => h⟩ | exact .inr ⟨_, _, _, rfl, fun h => by cases h⟩
  · unfold cod41 at h ⊢
    simp only at h ⊢
    split at h
    · split at h
      · rename_i h0
        cases h
        rw [iD_eq h0]
      · cases h
    · cases h
  · simp only [cod41, List.mem_cons, List.not_mem_nil, or_false] at h
    rcases h with rfl <;> exact ⟨_, rfl⟩
def cod43 : Cod Ty 43 := { sz := 1, zero := ([] : (List Line)), enc := fun m (x : (List Line)) => [.sl m 49 x], dec := fun m l => match l with
  | [a0] => match slD m 49 a0 with
    | some x0 => some (x0 : (List Line))
    | _ => none
  | _ => none }
theorem cod43_ok : CodOk cod43 false := by
  have fl : ∀ x : (List Line), _ := fun x => flips (cod43.enc true x) (cod43.enc false x) rfl (fun o a b h h' => by
    have hlt : o < 1 := get_lt h
    match o, hlt with
    | 0, _ => cases h; cases h'; first | exact .inl ⟨rfl, fun h => h⟩ | exact .inr ⟨_, _, rfl, rfl⟩
    )
  refine ⟨fun m x => rfl, fun m x a h => ?_, fun m cs x h => ?_, fun x => (fl x).1, fun h x => (by cases h), fun x => (fl x).2⟩
  · simp only [cod43, List.mem_cons, List.not_mem_nil, or_false] at h
    rcases h with rfl <;> first | exact .inl ⟨_, rfl, rfl⟩ | exact .inr ⟨_, _, _, rfl, fun h => h⟩ | exact .inr ⟨_, _, _, rfl, fun h => by cases h⟩
  · unfold cod43 at h ⊢
    simp only at h ⊢
    split at h
    · split at h
      · rename_i h0
        cases h
        rw [slD_eq h0]
      · cases h
    · cases h
def cod44 : Cod Ty 44 := { sz := 1, zero := (0 : Int), enc := fun m (x : Int) => [.v (.int .i64 x)], dec := fun m l => match l with
  | [a0] => match iD .i64 a0 with
    | some x0 => some (x0 : Int)
    | _ => none
  | _ => none }
theorem cod44_ok : CodOk cod44 true := by
  have fl : ∀ x : Int, _ := fun x => flips (cod44.enc true x) (cod44.enc false x) rfl (fun o a b h h' => by
    have hlt : o < 1 := get_lt h
    match o, hlt with
    | 0, _ => cases h; cases h'; first | exact .inl ⟨rfl, fun h => h⟩ | exact .inr ⟨_, _, rfl, rfl⟩
    )
  refine ⟨fun m x => rfl, fun m x a h => ?_, fun m cs x h => ?_, fun x => (fl x).1, fun h x => ⟨rfl, fun m a h => ?_⟩, fun x => (fl x).2⟩
  · simp only [cod44, List.mem_cons, List.not_mem_nil, or_false] at h
    rcases h with rfl <;> first | exact .inl ⟨_, rfl, rfl⟩ | exact .inr ⟨_, _, _, rfl, fun h => h⟩ | exact .inr ⟨_, _, _, rfl, fun h => by cases h⟩
  · unfold cod44 at h ⊢
    simp only at h ⊢
    split at h
    · split at h
      · rename_i h0
        cases h
        rw [iD_eq h0]
      · cases h
    · cases h
  · simp only [cod44, List.mem_cons, List.not_mem_nil, or_false] at h
    rcases h with rfl <;> exact ⟨_, rfl⟩
def cod47 : Cod Ty 47 := { sz := 1, zero := ([] : (List Word)), enc := fun m (x : (List Word)) => [.sl m 51 x], dec := fun m l => match l with
  | [a0] => match slD m 51 a0 with
    | some x0 => some (x0 : (List Word))
    | _ => none
  | _ => none }
theorem cod47_ok : CodOk cod47 false := by
  have fl : ∀ x : (List Word), _ := fun x => flips (cod47.enc true x) (cod47.enc false x) rfl (fun o a b h h' => by
    have hlt : o < 1 := get_lt h
    match o, hlt with
    | 0, _ => cases h; cases h'; first | exact .inl ⟨rfl, fun h => h⟩ | exact .inr ⟨_, _, rfl, rfl⟩
    )
  refine ⟨fun m x => rfl, fun m x a h => ?_, fun m cs x h => ?_, fun x => (fl x).1, fun h x => (by cases h), fun x => (fl x).2⟩
  · simp only [cod47, List.mem_cons, List.not_mem_nil, or_false] at h
    rcases h with rfl <;> first | exact .inl ⟨_, rfl, rfl⟩ | exact .inr ⟨_, _, _, rfl, fun h => h⟩ | exact .inr ⟨_, _, _, rfl, fun h => by cases h⟩
  · unfold cod47 at h ⊢
    simp only at h ⊢
    split at h
    · split at h
      · rename_i h0
        cases h
        rw [slD_eq h0]
      · cases h
    · cases h
def cod48 : Cod Ty 48 := { sz := 1, zero := (⟨[]⟩ : Line), enc := fun m (x : Line) => [.sl m 51 x.words], dec := fun m l => match l with
  | [a0] => match slD m 51 a0 with
    | some x0 => some (⟨x0⟩ : Line)
    | _ => none
  | _ => none }
theorem cod48_ok : CodOk cod48 false := by
  have fl : ∀ x : Line, _ := fun x => flips (cod48.enc true x) (cod48.enc false x) rfl (fun o a b h h' => by
    have hlt : o < 1 := get_lt h
    match o, hlt with
    | 0, _ => cases h; cases h'; first | exact .inl ⟨rfl, fun h => h⟩ | exact .inr ⟨_, _, rfl, rfl⟩
    )
  refine ⟨fun m x => rfl, fun m x a h => ?_, fun m cs x h => ?_, fun x => (fl x).1, fun h x => (by cases h), fun x => (fl x).2⟩
  · simp only [cod48, List.mem_cons, List.not_mem_nil, or_false] at h
    rcases h with rfl <;> first | exact .inl ⟨_, rfl, rfl⟩ | exact .inr ⟨_, _, _, rfl, fun h => h⟩ | exact .inr ⟨_, _, _, rfl, fun h => by cases h⟩
  · unfold cod48 at h ⊢
    simp only at h ⊢
    split at h
    · split at h
      · rename_i h0
        cases h
        rw [slD_eq h0]
      · cases h
    · cases h
def cod49 : Cod Ty 49 := { sz := 1, zero := (⟨[]⟩ : Line), enc := fun m (x : Line) => [.sl m 51 x.words], dec := fun m l => match l with
  | [a0] => match slD m 51 a0 with
    | some x0 => some (⟨x0⟩ : Line)
    | _ => none
  | _ => none }
theorem cod49_ok : CodOk cod49 false := by
  have fl : ∀ x : Line, _ := fun x => flips (cod49.enc true x) (cod49.enc false x) rfl (fun o a b h h' => by
    have hlt : o < 1 := get_lt h
    match o, hlt with
    | 0, _ => cases h; cases h'; first | exact .inl ⟨rfl, fun h => h⟩ | exact .inr ⟨_, _, rfl, rfl⟩
    )
  refine ⟨fun m x => rfl, fun m x a h => ?_, fun m cs x h => ?_, fun x => (fl x).1, fun h x => (by cases h), fun x => (fl x).2⟩
  · simp only [cod49, List.mem_cons, List.not_mem_nil, or_false] at h
    rcases h with rfl <;> first | exact .inl ⟨_, rfl, rfl⟩ | exact .inr ⟨_, _, _, rfl, fun h => h⟩ | exact .inr ⟨_, _, _, rfl, fun h => by cases h⟩
  · unfold cod49 at h ⊢
    simp only at h ⊢
    split at h
    · split at h
      · rename_i h0
        cases h
        rw [slD_eq h0]
      · cases h
    · cases h
def cod50 : Cod Ty 50 := { sz := 2, zero := (⟨ByteArray.empty, 0⟩ : Word), enc := fun m (x : Word) => [.v (.string x.text), .v (.int .i64 x.at_)], dec := fun m l => match l with
  | [a0, a1] => match sD a0, iD .i64 a1 with
    | some x0, some x1 => some (⟨x0, x1⟩ : Word)
    | _, _ => none
  | _ => none }
theorem cod50_ok : CodOk cod50 true := by
  have fl : ∀ x : Word, _ := fun x => flips (cod50.enc true x) (cod50.enc false x) rfl (fun o a b h h' => by
    have hlt : o < 2 := get_lt h
    match o, hlt with
    | 0, _ => cases h; cases h'; first | exact .inl ⟨rfl, fun h => h⟩ | exact .inr ⟨_, _, rfl, rfl⟩
    | 1, _ => cases h; cases h'; first | exact .inl ⟨rfl, fun h => h⟩ | exact .inr ⟨_, _, rfl, rfl⟩
    )
  refine ⟨fun m x => rfl, fun m x a h => ?_, fun m cs x h => ?_, fun x => (fl x).1, fun h x => ⟨rfl, fun m a h => ?_⟩, fun x => (fl x).2⟩
  · simp only [cod50, List.mem_cons, List.not_mem_nil, or_false] at h
    rcases h with rfl | rfl <;> first | exact .inl ⟨_, rfl, rfl⟩ | exact .inr ⟨_, _, _, rfl, fun h => h⟩ | exact .inr ⟨_, _, _, rfl, fun h => by cases h⟩
  · unfold cod50 at h ⊢
    simp only at h ⊢
    split at h
    · split at h
      · rename_i h0 h1
        cases h
        rw [sD_eq h0, iD_eq h1]
      · cases h
    · cases h
  · simp only [cod50, List.mem_cons, List.not_mem_nil, or_false] at h
    rcases h with rfl | rfl <;> exact ⟨_, rfl⟩
def cod51 : Cod Ty 51 := { sz := 2, zero := (⟨ByteArray.empty, 0⟩ : Word), enc := fun m (x : Word) => [.v (.string x.text), .v (.int .i64 x.at_)], dec := fun m l => match l with
  | [a0, a1] => match sD a0, iD .i64 a1 with
    | some x0, some x1 => some (⟨x0, x1⟩ : Word)
    | _, _ => none
  | _ => none }
theorem cod51_ok : CodOk cod51 true := by
  have fl : ∀ x : Word, _ := fun x => flips (cod51.enc true x) (cod51.enc false x) rfl (fun o a b h h' => by
    have hlt : o < 2 := get_lt h
    match o, hlt with
    | 0, _ => cases h; cases h'; first | exact .inl ⟨rfl, fun h => h⟩ | exact .inr ⟨_, _, rfl, rfl⟩
    | 1, _ => cases h; cases h'; first | exact .inl ⟨rfl, fun h => h⟩ | exact .inr ⟨_, _, rfl, rfl⟩
    )
  refine ⟨fun m x => rfl, fun m x a h => ?_, fun m cs x h => ?_, fun x => (fl x).1, fun h x => ⟨rfl, fun m a h => ?_⟩, fun x => (fl x).2⟩
  · simp only [cod51, List.mem_cons, List.not_mem_nil, or_false] at h
    rcases h with rfl | rfl <;> first | exact .inl ⟨_, rfl, rfl⟩ | exact .inr ⟨_, _, _, rfl, fun h => h⟩ | exact .inr ⟨_, _, _, rfl, fun h => by cases h⟩
  · unfold cod51 at h ⊢
    simp only at h ⊢
    split at h
    · split at h
      · rename_i h0 h1
        cases h
        rw [sD_eq h0, iD_eq h1]
      · cases h
    · cases h
  · simp only [cod51, List.mem_cons, List.not_mem_nil, or_false] at h
    rcases h with rfl | rfl <;> exact ⟨_, rfl⟩
def cod54 : Cod Ty 54 := { sz := 1, zero := ([] : (List Int)), enc := fun m (x : (List Int)) => [.sl m 5 x], dec := fun m l => match l with
  | [a0] => match slD m 5 a0 with
    | some x0 => some (x0 : (List Int))
    | _ => none
  | _ => none }
theorem cod54_ok : CodOk cod54 false := by
  have fl : ∀ x : (List Int), _ := fun x => flips (cod54.enc true x) (cod54.enc false x) rfl (fun o a b h h' => by
    have hlt : o < 1 := get_lt h
    match o, hlt with
    | 0, _ => cases h; cases h'; first | exact .inl ⟨rfl, fun h => h⟩ | exact .inr ⟨_, _, rfl, rfl⟩
    )
  refine ⟨fun m x => rfl, fun m x a h => ?_, fun m cs x h => ?_, fun x => (fl x).1, fun h x => (by cases h), fun x => (fl x).2⟩
  · simp only [cod54, List.mem_cons, List.not_mem_nil, or_false] at h
    rcases h with rfl <;> first | exact .inl ⟨_, rfl, rfl⟩ | exact .inr ⟨_, _, _, rfl, fun h => h⟩ | exact .inr ⟨_, _, _, rfl, fun h => by cases h⟩
  · unfold cod54 at h ⊢
    simp only at h ⊢
    split at h
    · split at h
      · rename_i h0
        cases h
        rw [slD_eq h0]
      · cases h
    · cases h
def cod64 : Cod Ty 64 := { sz := 1, zero := (0 : Int), enc := fun m (x : Int) => [.v (.int .u64 x)], dec := fun m l => match l with
  | [a0] => match iD .u64 a0 with
    | some x0 => some (x0 : Int)
    | _ => none
  | _ => none }
theorem cod64_ok : CodOk cod64 true := by
  have fl : ∀ x : Int, _ := fun x => flips (cod64.enc true x) (cod64.enc false x) rfl (fun o a b h h' => by
    have hlt : o < 1 := get_lt h
    match o, hlt with
    | 0, _ => cases h; cases h'; first | exact .inl ⟨rfl, fun h => h⟩ | exact .inr ⟨_, _, rfl, rfl⟩
    )
  refine ⟨fun m x => rfl, fun m x a h => ?_, fun m cs x h => ?_, fun x => (fl x).1, fun h x => ⟨rfl, fun m a h => ?_⟩, fun x => (fl x).2⟩
  · simp only [cod64, List.mem_cons, List.not_mem_nil, or_false] at h
    rcases h with rfl <;> first | exact .inl ⟨_, rfl, rfl⟩ | exact .inr ⟨_, _, _, rfl, fun h => h⟩ | exact .inr ⟨_, _, _, rfl, fun h => by cases h⟩
  · unfold cod64 at h ⊢
    simp only at h ⊢
    split at h
    · split at h
      · rename_i h0
        cases h
        rw [iD_eq h0]
      · cases h
    · cases h
  · simp only [cod64, List.mem_cons, List.not_mem_nil, or_false] at h
    rcases h with rfl <;> exact ⟨_, rfl⟩
def cod72 : Cod Ty 72 := { sz := 1, zero := (⟨[]⟩ : Mem72), enc := fun m (x : Mem72) => [.sl m 30 x.objects], dec := fun m l => match l with
  | [a0] => match slD m 30 a0 with
    | some x0 => some (⟨x0⟩ : Mem72)
    | _ => none
  | _ => none }
theorem cod72_ok : CodOk cod72 false := by
  have fl : ∀ x : Mem72, _ := fun x => flips (cod72.enc true x) (cod72.enc false x) rfl (fun o a b h h' => by
    have hlt : o < 1 := get_lt h
    match o, hlt with
    | 0, _ => cases h; cases h'; first | exact .inl ⟨rfl, fun h => h⟩ | exact .inr ⟨_, _, rfl, rfl⟩
    )
  refine ⟨fun m x => rfl, fun m x a h => ?_, fun m cs x h => ?_, fun x => (fl x).1, fun h x => (by cases h), fun x => (fl x).2⟩
  · simp only [cod72, List.mem_cons, List.not_mem_nil, or_false] at h
    rcases h with rfl <;> first | exact .inl ⟨_, rfl, rfl⟩ | exact .inr ⟨_, _, _, rfl, fun h => h⟩ | exact .inr ⟨_, _, _, rfl, fun h => by cases h⟩
  · unfold cod72 at h ⊢
    simp only at h ⊢
    split at h
    · split at h
      · rename_i h0
        cases h
        rw [slD_eq h0]
      · cases h
    · cases h
def cod73 : Cod Ty 73 := { sz := 1, zero := (⟨[]⟩ : Mem72), enc := fun m (x : Mem72) => [.sl m 30 x.objects], dec := fun m l => match l with
  | [a0] => match slD m 30 a0 with
    | some x0 => some (⟨x0⟩ : Mem72)
    | _ => none
  | _ => none }
theorem cod73_ok : CodOk cod73 false := by
  have fl : ∀ x : Mem72, _ := fun x => flips (cod73.enc true x) (cod73.enc false x) rfl (fun o a b h h' => by
    have hlt : o < 1 := get_lt h
    match o, hlt with
    | 0, _ => cases h; cases h'; first | exact .inl ⟨rfl, fun h => h⟩ | exact .inr ⟨_, _, rfl, rfl⟩
    )
  refine ⟨fun m x => rfl, fun m x a h => ?_, fun m cs x h => ?_, fun x => (fl x).1, fun h x => (by cases h), fun x => (fl x).2⟩
  · simp only [cod73, List.mem_cons, List.not_mem_nil, or_false] at h
    rcases h with rfl <;> first | exact .inl ⟨_, rfl, rfl⟩ | exact .inr ⟨_, _, _, rfl, fun h => h⟩ | exact .inr ⟨_, _, _, rfl, fun h => by cases h⟩
  · unfold cod73 at h ⊢
    simp only at h ⊢
    split at h
    · split at h
      · rename_i h0
        cases h
        rw [slD_eq h0]
      · cases h
    · cases h
def cod83 : Cod Ty 83 := { sz := 1, zero := (0 : Int), enc := fun m (x : Int) => [.v (.int .u32 x)], dec := fun m l => match l with
  | [a0] => match iD .u32 a0 with
    | some x0 => some (x0 : Int)
    | _ => none
  | _ => none }
theorem cod83_ok : CodOk cod83 true := by
  have fl : ∀ x : Int, _ := fun x => flips (cod83.enc true x) (cod83.enc false x) rfl (fun o a b h h' => by
    have hlt : o < 1 := get_lt h
    match o, hlt with
    | 0, _ => cases h; cases h'; first | exact .inl ⟨rfl, fun h => h⟩ | exact .inr ⟨_, _, rfl, rfl⟩
    )
  refine ⟨fun m x => rfl, fun m x a h => ?_, fun m cs x h => ?_, fun x => (fl x).1, fun h x => ⟨rfl, fun m a h => ?_⟩, fun x => (fl x).2⟩
  · simp only [cod83, List.mem_cons, List.not_mem_nil, or_false] at h
    rcases h with rfl <;> first | exact .inl ⟨_, rfl, rfl⟩ | exact .inr ⟨_, _, _, rfl, fun h => h⟩ | exact .inr ⟨_, _, _, rfl, fun h => by cases h⟩
  · unfold cod83 at h ⊢
    simp only at h ⊢
    split at h
    · split at h
      · rename_i h0
        cases h
        rw [iD_eq h0]
      · cases h
    · cases h
  · simp only [cod83, List.mem_cons, List.not_mem_nil, or_false] at h
    rcases h with rfl <;> exact ⟨_, rfl⟩
def cod84 : Cod Ty 84 := { sz := 1, zero := (0 : Int), enc := fun m (x : Int) => [.v (.int .u8 x)], dec := fun m l => match l with
  | [a0] => match iD .u8 a0 with
    | some x0 => some (x0 : Int)
    | _ => none
  | _ => none }
theorem cod84_ok : CodOk cod84 true := by
  have fl : ∀ x : Int, _ := fun x => flips (cod84.enc true x) (cod84.enc false x) rfl (fun o a b h h' => by
    have hlt : o < 1 := get_lt h
    match o, hlt with
    | 0, _ => cases h; cases h'; first | exact .inl ⟨rfl, fun h => h⟩ | exact .inr ⟨_, _, rfl, rfl⟩
    )
  refine ⟨fun m x => rfl, fun m x a h => ?_, fun m cs x h => ?_, fun x => (fl x).1, fun h x => ⟨rfl, fun m a h => ?_⟩, fun x => (fl x).2⟩
  · simp only [cod84, List.mem_cons, List.not_mem_nil, or_false] at h
    rcases h with rfl <;> first | exact .inl ⟨_, rfl, rfl⟩ | exact .inr ⟨_, _, _, rfl, fun h => h⟩ | exact .inr ⟨_, _, _, rfl, fun h => by cases h⟩
  · unfold cod84 at h ⊢
    simp only at h ⊢
    split at h
    · split at h
      · rename_i h0
        cases h
        rw [iD_eq h0]
      · cases h
    · cases h
  · simp only [cod84, List.mem_cons, List.not_mem_nil, or_false] at h
    rcases h with rfl <;> exact ⟨_, rfl⟩
def cod85 : Cod Ty 85 := { sz := 1, zero := (0 : Int), enc := fun m (x : Int) => [.v (.int .u8 x)], dec := fun m l => match l with
  | [a0] => match iD .u8 a0 with
    | some x0 => some (x0 : Int)
    | _ => none
  | _ => none }
theorem cod85_ok : CodOk cod85 true := by
  have fl : ∀ x : Int, _ := fun x => flips (cod85.enc true x) (cod85.enc false x) rfl (fun o a b h h' => by
    have hlt : o < 1 := get_lt h
    match o, hlt with
    | 0, _ => cases h; cases h'; first | exact .inl ⟨rfl, fun h => h⟩ | exact .inr ⟨_, _, rfl, rfl⟩
    )
  refine ⟨fun m x => rfl, fun m x a h => ?_, fun m cs x h => ?_, fun x => (fl x).1, fun h x => ⟨rfl, fun m a h => ?_⟩, fun x => (fl x).2⟩
  · simp only [cod85, List.mem_cons, List.not_mem_nil, or_false] at h
    rcases h with rfl <;> first | exact .inl ⟨_, rfl, rfl⟩ | exact .inr ⟨_, _, _, rfl, fun h => h⟩ | exact .inr ⟨_, _, _, rfl, fun h => by cases h⟩
  · unfold cod85 at h ⊢
    simp only at h ⊢
    split at h
    · split at h
      · rename_i h0
        cases h
        rw [iD_eq h0]
      · cases h
    · cases h
  · simp only [cod85, List.mem_cons, List.not_mem_nil, or_false] at h
    rcases h with rfl <;> exact ⟨_, rfl⟩
def cod88 : Cod Ty 88 := { sz := 1, zero := (0 : Int), enc := fun m (x : Int) => [.v (.int .i32 x)], dec := fun m l => match l with
  | [a0] => match iD .i32 a0 with
    | some x0 => some (x0 : Int)
    | _ => none
  | _ => none }
theorem cod88_ok : CodOk cod88 true := by
  have fl : ∀ x : Int, _ := fun x => flips (cod88.enc true x) (cod88.enc false x) rfl (fun o a b h h' => by
    have hlt : o < 1 := get_lt h
    match o, hlt with
    | 0, _ => cases h; cases h'; first | exact .inl ⟨rfl, fun h => h⟩ | exact .inr ⟨_, _, rfl, rfl⟩
    )
  refine ⟨fun m x => rfl, fun m x a h => ?_, fun m cs x h => ?_, fun x => (fl x).1, fun h x => ⟨rfl, fun m a h => ?_⟩, fun x => (fl x).2⟩
  · simp only [cod88, List.mem_cons, List.not_mem_nil, or_false] at h
    rcases h with rfl <;> first | exact .inl ⟨_, rfl, rfl⟩ | exact .inr ⟨_, _, _, rfl, fun h => h⟩ | exact .inr ⟨_, _, _, rfl, fun h => by cases h⟩
  · unfold cod88 at h ⊢
    simp only at h ⊢
    split at h
    · split at h
      · rename_i h0
        cases h
        rw [iD_eq h0]
      · cases h
    · cases h
  · simp only [cod88, List.mem_cons, List.not_mem_nil, or_false] at h
    rcases h with rfl <;> exact ⟨_, rfl⟩
def cod89 : Cod Ty 89 := { sz := 1, zero := (0 : Int), enc := fun m (x : Int) => [.v (.int .i32 x)], dec := fun m l => match l with
  | [a0] => match iD .i32 a0 with
    | some x0 => some (x0 : Int)
    | _ => none
  | _ => none }
theorem cod89_ok : CodOk cod89 true := by
  have fl : ∀ x : Int, _ := fun x => flips (cod89.enc true x) (cod89.enc false x) rfl (fun o a b h h' => by
    have hlt : o < 1 := get_lt h
    match o, hlt with
    | 0, _ => cases h; cases h'; first | exact .inl ⟨rfl, fun h => h⟩ | exact .inr ⟨_, _, rfl, rfl⟩
    )
  refine ⟨fun m x => rfl, fun m x a h => ?_, fun m cs x h => ?_, fun x => (fl x).1, fun h x => ⟨rfl, fun m a h => ?_⟩, fun x => (fl x).2⟩
  · simp only [cod89, List.mem_cons, List.not_mem_nil, or_false] at h
    rcases h with rfl <;> first | exact .inl ⟨_, rfl, rfl⟩ | exact .inr ⟨_, _, _, rfl, fun h => h⟩ | exact .inr ⟨_, _, _, rfl, fun h => by cases h⟩
  · unfold cod89 at h ⊢
    simp only at h ⊢
    split at h
    · split at h
      · rename_i h0
        cases h
        rw [iD_eq h0]
      · cases h
    · cases h
  · simp only [cod89, List.mem_cons, List.not_mem_nil, or_false] at h
    rcases h with rfl <;> exact ⟨_, rfl⟩
def codA : (t : Nat) → Cod Ty t
  | 2 => cod2
  | 3 => cod3
  | 4 => cod4
  | 5 => cod5
  | 6 => cod6
  | 7 => cod7
  | 8 => cod8
  | 9 => cod9
  | 10 => cod10
  | 11 => cod11
  | 12 => cod12
  | 13 => cod13
  | 14 => cod14
  | 21 => cod21
  | 22 => cod22
  | 27 => cod27
  | 28 => cod28
  | 29 => cod29
  | 30 => cod30
  | 31 => cod31
  | 32 => cod32
  | 41 => cod41
  | 43 => cod43
  | 44 => cod44
  | 47 => cod47
  | 48 => cod48
  | 49 => cod49
  | 50 => cod50
  | 51 => cod51
  | 54 => cod54
  | 64 => cod64
  | 72 => cod72
  | 73 => cod73
  | 83 => cod83
  | 84 => cod84
  | 85 => cod85
  | 88 => cod88
  | 89 => cod89
  | t => codNone t
def flatA : Nat → Bool
  | 2 => true
  | 3 => true
  | 4 => true
  | 5 => true
  | 6 => true
  | 7 => true
  | 8 => true
  | 9 => true
  | 10 => true
  | 11 => true
  | 12 => true
  | 13 => true
  | 14 => true
  | 21 => true
  | 41 => true
  | 44 => true
  | 50 => true
  | 51 => true
  | 64 => true
  | 83 => true
  | 84 => true
  | 85 => true
  | 88 => true
  | 89 => true
  | _ => false
def soleA : Nat → Bool
  | 2 => true
  | 3 => true
  | 4 => true
  | 5 => true
  | 6 => true
  | 7 => true
  | 8 => true
  | 9 => true
  | 10 => true
  | 11 => true
  | 12 => true
  | 13 => true
  | 14 => true
  | 21 => true
  | 22 => true
  | 27 => true
  | 28 => true
  | 29 => true
  | 30 => true
  | 31 => true
  | 32 => true
  | 41 => true
  | 43 => true
  | 44 => true
  | 47 => true
  | 48 => true
  | 49 => true
  | 50 => true
  | 51 => true
  | 54 => true
  | 64 => true
  | 72 => true
  | 73 => true
  | 83 => true
  | 84 => true
  | 85 => true
  | 88 => true
  | 89 => true
  | _ => false
def hasA : Nat → Bool
  | 2 => true
  | 3 => true
  | 4 => true
  | 5 => true
  | 6 => true
  | 7 => true
  | 8 => true
  | 9 => true
  | 10 => true
  | 11 => true
  | 12 => true
  | 13 => true
  | 14 => true
  | 21 => true
  | 22 => true
  | 27 => true
  | 28 => true
  | 29 => true
  | 30 => true
  | 31 => true
  | 32 => true
  | 41 => true
  | 43 => true
  | 44 => true
  | 47 => true
  | 48 => true
  | 49 => true
  | 50 => true
  | 51 => true
  | 54 => true
  | 64 => true
  | 72 => true
  | 73 => true
  | 83 => true
  | 84 => true
  | 85 => true
  | 88 => true
  | 89 => true
  | _ => false
def tiA : Nat → Option TI
  | 2 => some ⟨1, 8, .int .i64⟩
  | 3 => some ⟨1, 8, .int .i64⟩
  | 4 => some ⟨1, 1, .bool⟩
  | 5 => some ⟨1, 1, .int .u8⟩
  | 6 => some ⟨1, 1, .int .u8⟩
  | 7 => some ⟨4, 24, .struct [(0, 2), (1, 3), (2, 4), (3, 6)]⟩
  | 8 => some ⟨4, 24, .struct [(0, 2), (1, 3), (2, 4), (3, 6)]⟩
  | 9 => some ⟨1, 16, .str⟩
  | 10 => some ⟨1, 16, .str⟩
  | 11 => some ⟨1, 16, .str⟩
  | 12 => some ⟨1, 8, .int .u64⟩
  | 13 => some ⟨2, 24, .struct [(0, 9), (1, 12)]⟩
  | 14 => some ⟨2, 24, .struct [(0, 9), (1, 12)]⟩
  | 15 => some ⟨1, 8, .ptr 79⟩
  | 16 => some ⟨1, 8, .ptr 82⟩
  | 17 => some ⟨1, 8, .ptr 91⟩
  | 18 => some ⟨1, 8, .struct [(0, 17)]⟩
  | 19 => some ⟨1, 8, .struct [(0, 17)]⟩
  | 21 => some ⟨1, 4, .int .i32⟩
  | 22 => some ⟨1, 24, .slice 32⟩
  | 24 => some ⟨1, 8, .ptr 73⟩
  | 26 => some ⟨1, 8, .ptr 29⟩
  | 27 => some ⟨1, 24, .slice 30⟩
  | 28 => some ⟨1, 24, .struct [(0, 27)]⟩
  | 29 => some ⟨1, 24, .struct [(0, 27)]⟩
  | 30 => some ⟨1, 24, .slice 2⟩
  | 31 => some ⟨5, 56, .struct [(0, 3), (1, 3), (2, 2), (3, 2), (4, 30)]⟩
  | 32 => some ⟨5, 56, .struct [(0, 3), (1, 3), (2, 2), (3, 2), (4, 30)]⟩
  | 41 => some ⟨1, 8, .int .u64⟩
  | 43 => some ⟨1, 24, .slice 49⟩
  | 44 => some ⟨1, 8, .int .i64⟩
  | 47 => some ⟨1, 24, .slice 51⟩
  | 48 => some ⟨1, 24, .struct [(0, 47)]⟩
  | 49 => some ⟨1, 24, .struct [(0, 47)]⟩
  | 50 => some ⟨2, 24, .struct [(0, 9), (1, 3)]⟩
  | 51 => some ⟨2, 24, .struct [(0, 9), (1, 3)]⟩
  | 54 => some ⟨1, 24, .slice 5⟩
  | 64 => some ⟨1, 8, .int .u64⟩
  | 72 => some ⟨1, 24, .struct [(0, 27)]⟩
  | 73 => some ⟨1, 24, .struct [(0, 27)]⟩
  | 78 => some ⟨4, 40, .struct [(0, 17), (1, 17), (2, 17), (3, 9)]⟩
  | 79 => some ⟨4, 40, .struct [(0, 17), (1, 17), (2, 17), (3, 9)]⟩
  | 80 => some ⟨0, 0, .arr 0 16⟩
  | 83 => some ⟨1, 4, .int .u32⟩
  | 84 => some ⟨1, 1, .int .u8⟩
  | 85 => some ⟨1, 1, .int .u8⟩
  | 87 => some ⟨1, 8, .ptr 5⟩
  | 88 => some ⟨1, 4, .int .i32⟩
  | 89 => some ⟨1, 4, .int .i32⟩
  | 90 => some ⟨11, 48, .struct [(0, 12), (1, 12), (2, 83), (3, 84), (4, 5), (5, 5), (6, 85), (7, 86), (8, 87), (9, 88), (10, 89)]⟩
  | 91 => some ⟨11, 48, .struct [(0, 12), (1, 12), (2, 83), (3, 84), (4, 5), (5, 5), (6, 85), (7, 86), (8, 87), (9, 88), (10, 89)]⟩
  | _ => none
def tb : Tb Ty := ⟨codA, tiA, hasA, flatA, soleA⟩
theorem codA_ok (t : Nat) : CodOk (codA t) (flatA t) := by
  unfold codA; split
  · exact cod2_ok
  · exact cod3_ok
  · exact cod4_ok
  · exact cod5_ok
  · exact cod6_ok
  · exact cod7_ok
  · exact cod8_ok
  · exact cod9_ok
  · exact cod10_ok
  · exact cod11_ok
  · exact cod12_ok
  · exact cod13_ok
  · exact cod14_ok
  · exact cod21_ok
  · exact cod22_ok
  · exact cod27_ok
  · exact cod28_ok
  · exact cod29_ok
  · exact cod30_ok
  · exact cod31_ok
  · exact cod32_ok
  · exact cod41_ok
  · exact cod43_ok
  · exact cod44_ok
  · exact cod47_ok
  · exact cod48_ok
  · exact cod49_ok
  · exact cod50_ok
  · exact cod51_ok
  · exact cod54_ok
  · exact cod64_ok
  · exact cod72_ok
  · exact cod73_ok
  · exact cod83_ok
  · exact cod84_ok
  · exact cod85_ok
  · exact cod88_ok
  · exact cod89_ok
  · exact codNone_ok t _
theorem sole_ok : ∀ t, soleA t = true → ∀ x a, a ∈ (codA t).enc true x → (∃ y, a = .v y) ∨ ∃ t' ys, a = .sl true t' ys ∧ soleA t' = true := by
  intro t h
  unfold soleA at h
  split at h
  · intro x a h
    simp only [codA, cod2, List.mem_cons, List.not_mem_nil, or_false] at h
    rcases h with rfl <;> first | exact .inl ⟨_, rfl⟩ | exact .inr ⟨_, _, rfl, rfl⟩
  · intro x a h
    simp only [codA, cod3, List.mem_cons, List.not_mem_nil, or_false] at h
    rcases h with rfl <;> first | exact .inl ⟨_, rfl⟩ | exact .inr ⟨_, _, rfl, rfl⟩
  · intro x a h
    simp only [codA, cod4, List.mem_cons, List.not_mem_nil, or_false] at h
    rcases h with rfl <;> first | exact .inl ⟨_, rfl⟩ | exact .inr ⟨_, _, rfl, rfl⟩
  · intro x a h
    simp only [codA, cod5, List.mem_cons, List.not_mem_nil, or_false] at h
    rcases h with rfl <;> first | exact .inl ⟨_, rfl⟩ | exact .inr ⟨_, _, rfl, rfl⟩
  · intro x a h
    simp only [codA, cod6, List.mem_cons, List.not_mem_nil, or_false] at h
    rcases h with rfl <;> first | exact .inl ⟨_, rfl⟩ | exact .inr ⟨_, _, rfl, rfl⟩
  · intro x a h
    simp only [codA, cod7, List.mem_cons, List.not_mem_nil, or_false] at h
    rcases h with rfl | rfl | rfl | rfl <;> first | exact .inl ⟨_, rfl⟩ | exact .inr ⟨_, _, rfl, rfl⟩
  · intro x a h
    simp only [codA, cod8, List.mem_cons, List.not_mem_nil, or_false] at h
    rcases h with rfl | rfl | rfl | rfl <;> first | exact .inl ⟨_, rfl⟩ | exact .inr ⟨_, _, rfl, rfl⟩
  · intro x a h
    simp only [codA, cod9, List.mem_cons, List.not_mem_nil, or_false] at h
    rcases h with rfl <;> first | exact .inl ⟨_, rfl⟩ | exact .inr ⟨_, _, rfl, rfl⟩
  · intro x a h
    simp only [codA, cod10, List.mem_cons, List.not_mem_nil, or_false] at h
    rcases h with rfl <;> first | exact .inl ⟨_, rfl⟩ | exact .inr ⟨_, _, rfl, rfl⟩
  · intro x a h
    simp only [codA, cod11, List.mem_cons, List.not_mem_nil, or_false] at h
    rcases h with rfl <;> first | exact .inl ⟨_, rfl⟩ | exact .inr ⟨_, _, rfl, rfl⟩
  · intro x a h
    simp only [codA, cod12, List.mem_cons, List.not_mem_nil, or_false] at h
    rcases h with rfl <;> first | exact .inl ⟨_, rfl⟩ | exact .inr ⟨_, _, rfl, rfl⟩
  · intro x a h
    simp only [codA, cod13, List.mem_cons, List.not_mem_nil, or_false] at h
    rcases h with rfl | rfl <;> first | exact .inl ⟨_, rfl⟩ | exact .inr ⟨_, _, rfl, rfl⟩
  · intro x a h
    simp only [codA, cod14, List.mem_cons, List.not_mem_nil, or_false] at h
    rcases h with rfl | rfl <;> first | exact .inl ⟨_, rfl⟩ | exact .inr ⟨_, _, rfl, rfl⟩
  · intro x a h
    simp only [codA, cod21, List.mem_cons, List.not_mem_nil, or_false] at h
    rcases h with rfl <;> first | exact .inl ⟨_, rfl⟩ | exact .inr ⟨_, _, rfl, rfl⟩
  · intro x a h
    simp only [codA, cod22, List.mem_cons, List.not_mem_nil, or_false] at h
    rcases h with rfl <;> first | exact .inl ⟨_, rfl⟩ | exact .inr ⟨_, _, rfl, rfl⟩
  · intro x a h
    simp only [codA, cod27, List.mem_cons, List.not_mem_nil, or_false] at h
    rcases h with rfl <;> first | exact .inl ⟨_, rfl⟩ | exact .inr ⟨_, _, rfl, rfl⟩
  · intro x a h
    simp only [codA, cod28, List.mem_cons, List.not_mem_nil, or_false] at h
    rcases h with rfl <;> first | exact .inl ⟨_, rfl⟩ | exact .inr ⟨_, _, rfl, rfl⟩
  · intro x a h
    simp only [codA, cod29, List.mem_cons, List.not_mem_nil, or_false] at h
    rcases h with rfl <;> first | exact .inl ⟨_, rfl⟩ | exact .inr ⟨_, _, rfl, rfl⟩
  · intro x a h
    simp only [codA, cod30, List.mem_cons, List.not_mem_nil, or_false] at h
    rcases h with rfl <;> first | exact .inl ⟨_, rfl⟩ | exact .inr ⟨_, _, rfl, rfl⟩
  · intro x a h
    simp only [codA, cod31, List.mem_cons, List.not_mem_nil, or_false] at h
    rcases h with rfl | rfl | rfl | rfl | rfl <;> first | exact .inl ⟨_, rfl⟩ | exact .inr ⟨_, _, rfl, rfl⟩
  · intro x a h
    simp only [codA, cod32, List.mem_cons, List.not_mem_nil, or_false] at h
    rcases h with rfl | rfl | rfl | rfl | rfl <;> first | exact .inl ⟨_, rfl⟩ | exact .inr ⟨_, _, rfl, rfl⟩
  · intro x a h
    simp only [codA, cod41, List.mem_cons, List.not_mem_nil, or_false] at h
    rcases h with rfl <;> first | exact .inl ⟨_, rfl⟩ | exact .inr ⟨_, _, rfl, rfl⟩
  · intro x a h
    simp only [codA, cod43, List.mem_cons, List.not_mem_nil, or_false] at h
    rcases h with rfl <;> first | exact .inl ⟨_, rfl⟩ | exact .inr ⟨_, _, rfl, rfl⟩
  · intro x a h
    simp only [codA, cod44, List.mem_cons, List.not_mem_nil, or_false] at h
    rcases h with rfl <;> first | exact .inl ⟨_, rfl⟩ | exact .inr ⟨_, _, rfl, rfl⟩
  · intro x a h
    simp only [codA, cod47, List.mem_cons, List.not_mem_nil, or_false] at h
    rcases h with rfl <;> first | exact .inl ⟨_, rfl⟩ | exact .inr ⟨_, _, rfl, rfl⟩
  · intro x a h
    simp only [codA, cod48, List.mem_cons, List.not_mem_nil, or_false] at h
    rcases h with rfl <;> first | exact .inl ⟨_, rfl⟩ | exact .inr ⟨_, _, rfl, rfl⟩
  · intro x a h
    simp only [codA, cod49, List.mem_cons, List.not_mem_nil, or_false] at h
    rcases h with rfl <;> first | exact .inl ⟨_, rfl⟩ | exact .inr ⟨_, _, rfl, rfl⟩
  · intro x a h
    simp only [codA, cod50, List.mem_cons, List.not_mem_nil, or_false] at h
    rcases h with rfl | rfl <;> first | exact .inl ⟨_, rfl⟩ | exact .inr ⟨_, _, rfl, rfl⟩
  · intro x a h
    simp only [codA, cod51, List.mem_cons, List.not_mem_nil, or_false] at h
    rcases h with rfl | rfl <;> first | exact .inl ⟨_, rfl⟩ | exact .inr ⟨_, _, rfl, rfl⟩
  · intro x a h
    simp only [codA, cod54, List.mem_cons, List.not_mem_nil, or_false] at h
    rcases h with rfl <;> first | exact .inl ⟨_, rfl⟩ | exact .inr ⟨_, _, rfl, rfl⟩
  · intro x a h
    simp only [codA, cod64, List.mem_cons, List.not_mem_nil, or_false] at h
    rcases h with rfl <;> first | exact .inl ⟨_, rfl⟩ | exact .inr ⟨_, _, rfl, rfl⟩
  · intro x a h
    simp only [codA, cod72, List.mem_cons, List.not_mem_nil, or_false] at h
    rcases h with rfl <;> first | exact .inl ⟨_, rfl⟩ | exact .inr ⟨_, _, rfl, rfl⟩
  · intro x a h
    simp only [codA, cod73, List.mem_cons, List.not_mem_nil, or_false] at h
    rcases h with rfl <;> first | exact .inl ⟨_, rfl⟩ | exact .inr ⟨_, _, rfl, rfl⟩
  · intro x a h
    simp only [codA, cod83, List.mem_cons, List.not_mem_nil, or_false] at h
    rcases h with rfl <;> first | exact .inl ⟨_, rfl⟩ | exact .inr ⟨_, _, rfl, rfl⟩
  · intro x a h
    simp only [codA, cod84, List.mem_cons, List.not_mem_nil, or_false] at h
    rcases h with rfl <;> first | exact .inl ⟨_, rfl⟩ | exact .inr ⟨_, _, rfl, rfl⟩
  · intro x a h
    simp only [codA, cod85, List.mem_cons, List.not_mem_nil, or_false] at h
    rcases h with rfl <;> first | exact .inl ⟨_, rfl⟩ | exact .inr ⟨_, _, rfl, rfl⟩
  · intro x a h
    simp only [codA, cod88, List.mem_cons, List.not_mem_nil, or_false] at h
    rcases h with rfl <;> first | exact .inl ⟨_, rfl⟩ | exact .inr ⟨_, _, rfl, rfl⟩
  · intro x a h
    simp only [codA, cod89, List.mem_cons, List.not_mem_nil, or_false] at h
    rcases h with rfl <;> first | exact .inl ⟨_, rfl⟩ | exact .inr ⟨_, _, rfl, rfl⟩
  · cases h
theorem good : Good tb := ⟨fun t => (codA_ok t).len, fun t => (codA_ok t).cell, fun t => (codA_ok t).dec, fun t => (codA_ok t).flip, fun t => (codA_ok t).flat, fun t => (codA_ok t).flip', sole_ok⟩
end Go.Proofs.Ytnibdgjlbhdmfaa.Ev
