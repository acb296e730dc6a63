-- Laid by a program of this session out of Lean's print of the program.
import Derived.Test.YtggibjbcbicpjaaDoorProg
import Derived.Below
import Derived.Deep.Draws
import Derived.Deep.AppendLies
import Derived.Maps.AppendAt
import Derived.OwnWalk
import Derived.Laws.BytesArg
import Derived.Laws.MakeOwn
import Derived.Laws.OwnMore
import Derived.Deep.OwnRows
import Derived.Tactics
import Derived.Lib.ConvBytes
import Derived.Laws.Slices
import Derived.WalkKit
import Derived.KernelRfl
import Derived.RowKit3
import Derived.Deep.LoopGhost
import Derived.Deep.QuietTactic
import Derived.BigQuiet
import Derived.WideLaws
import Derived.Deep.DeepCutAuto
import Derived.Deep.CutBlock
import Derived.Deep.RegionHeld3
import Derived.Laws.Rows
import Derived.Lib.AppendStr
import Derived.ArgAppend
import Derived.Laws.IdiomCopy
import Derived.OrdersHeld
import Derived.Laws.BitsLemmas
import Derived.RowKit
import Derived.Test.YtggibjbcbicpjaaDoorWWords
import Derived.Test.YtggibjbcbicpjaaDoorWLast
import Derived.Test.YtggibjbcbicpjaaDoorWTab
import Derived.Test.YtggibjbcbicpjaaDoorWFour
import Derived.Test.YtggibjbcbicpjaaDoorWQPut
import Derived.Test.YtggibjbcbicpjaaDoorWApart
import Derived.Test.YtggibjbcbicpjaaDoorWArr
import Derived.Test.YtggibjbcbicpjaaDoorWZeros
import Derived.Test.YtggibjbcbicpjaaDoorWFoot
import Derived.Test.YtggibjbcbicpjaaDoorWKept
import Derived.Test.YtggibjbcbicpjaaDoorWShare
import Derived.Test.YtggibjbcbicpjaaDoorWN
import Derived.Test.YtggibjbcbicpjaaDoorWFootNe
import Derived.Test.YtggibjbcbicpjaaDoorWAt
import Derived.Test.YtggibjbcbicpjaaDoorWEqStruct
import Derived.Test.YtggibjbcbicpjaaDoorWRepsOne
import Derived.Test.YtggibjbcbicpjaaDoorWInv
import Derived.Test.YtggibjbcbicpjaaDoorWInvWords
import Derived.Test.YtggibjbcbicpjaaDoorWGuard
import Derived.Test.YtggibjbcbicpjaaDoorWNEv
import Derived.Test.YtggibjbcbicpjaaDoorWMore
namespace Go.Proofs.YtggibjbcbicpjaaDoor.QLexWhere
open Go.RowKit Go.Proofs.YtggibjbcbicpjaaDoorW.PrintWords Go.Proofs.YtggibjbcbicpjaaDoorW.PrintLast Go.Proofs.YtggibjbcbicpjaaDoorW.PrintMore
attribute [local go_sem] max2_int min2_int max_two min_two max_three min_three max_four min_four   -- for this text's walks alone
set_option linter.unusedVariables false
set_option linter.unusedSimpArgs false



def errW : Option Int → Value
  | none => .nilIface
  | some c => .iface 0 (.int .i64 c)
theorem errW_none : errW none = .nilIface := rfl
theorem errW_some (c : Int) : errW (some c) = .iface 0 (.int .i64 c) := rfl

theorem info32 : (Tryd.prog.info? 32).map (fun i => (i.zero, i.size, i.bytes)) = some (some (.agg #[(.slice none 0 0)]), 1, 24) := by kernel_rfl
theorem info35 : (Tryd.prog.info? 35).map (fun i => (i.zero, i.size, i.bytes)) = some (some (.agg #[(.string ⟨#[]⟩), (.int .i64 0)]), 2, 24) := by kernel_rfl
-- the values' own types
/-! #### struct type 35 -/
structure S35 where
  f0 : ByteArray
  f1 : Int
def z35 : S35 := ⟨(⟨#[]⟩ : ByteArray), (0 : Int)⟩
def k35 : Kd S35 := Kd.iso (Kd.pair Kd.string (Kd.int .i64)) (fun x : S35 => (x.f0, x.f1))
theorem k51_open {w : World} {x : S35} {cs : List Value} (h : k35.K w x cs) : cs = [.string x.f0, .int .i64 x.f1] := by
  obtain ⟨_, _, rfl, rfl, rfl⟩ := h
  exact rfl
theorem k51_openM {w : World} {base : Nat} {ok : Nat → Prop} {x : S35} {cs : List Value} (h : k35.M w base ok x cs) : cs = [.string x.f0, .int .i64 x.f1] := by
  obtain ⟨_, _, rfl, rfl, rfl⟩ := h
  exact rfl
theorem k51_mk (w : World) (x : S35)  : k35.K w x [.string x.f0, .int .i64 x.f1] := ⟨[.string x.f0], [.int .i64 x.f1], rfl, rfl, rfl⟩
theorem k51_mkM (w : World) (base : Nat) (ok : Nat → Prop) (x : S35)  : k35.M w base ok x [.string x.f0, .int .i64 x.f1] := ⟨[.string x.f0], [.int .i64 x.f1], rfl, rfl, rfl⟩
def rd_T35 (xs : List S35) (i : Int) : S35 := xs.getD i.toNat z35
theorem at_T35 {w : World} {A : Option Addr} {n : Nat} {xs : List S35} (h : Kd.C k35 w A n xs) (i : Int) (h0 : 0 ≤ i) (h1 : i < n) : ∃ ad , A = some ad ∧ w.cell? (ad.add (i.toNat * 2)) = some (.string (rd_T35 xs i).f0) ∧ w.cell? ⟨(ad.add (i.toNat * 2)).block, (ad.add (i.toNat * 2)).off + 1, none⟩ = some (.int .i64 (rd_T35 xs i).f1) := by
  obtain ⟨ad, c, e, _, hK, hc0⟩ := Kd.C_get h z35 i h0 h1
  have hc : ∀ j u, c[j]? = some u → w.cell? (ad.add (i.toNat * 2 + j)) = some u := hc0
  obtain rfl := k51_open hK
  exact ⟨ad, e, hc 0 _ rfl, by rw [← add_field _ _ 1 (by omega)]; exact hc 1 _ rfl⟩

def rd_L3 (xs : List (List S35)) (i : Int) : (List S35) := xs.getD i.toNat ([] : List S35)
theorem at_L3 {w : World} {A : Option Addr} {n : Nat} {xs : List (List S35)} (h : Kd.C (Kd.slice 35 k35) w A n xs) (i : Int) (h0 : 0 ≤ i) (h1 : i < n) : ∃ ad A0 c0, A = some ad ∧ w.cell? (ad.add i.toNat) = some (.slice A0 (rd_L3 xs i).length c0) ∧ (rd_L3 xs i).length ≤ c0 ∧ k35.C w A0 (rd_L3 xs i).length (rd_L3 xs i) := by
  obtain ⟨ad, c, e, _, hK, hc0⟩ := Kd.C_get h ([] : List S35) i h0 h1
  have hc : ∀ j u, c[j]? = some u → w.cell? (ad.add (i.toNat * 1 + j)) = some u := hc0
  obtain ⟨A0, c0, rfl, l0, g0⟩ := hK
  exact ⟨ad, A0, c0, e, by have hq := hc 0 _ rfl; rwa [Nat.mul_one, Nat.add_zero] at hq, l0, g0⟩

/-! #### struct type 32 -/
structure S32 where
  f0 : (List S35)
def z32 : S32 := ⟨([] : List S35)⟩
def k32 : Kd S32 := Kd.iso (Kd.slice 35 k35) (fun x : S32 => x.f0)
theorem k49_open {w : World} {x : S32} {cs : List Value} (h : k32.K w x cs) : ∃ A0 c0, cs = [.slice A0 x.f0.length c0] ∧ x.f0.length ≤ c0 ∧ k35.C w A0 x.f0.length x.f0 := by
  obtain ⟨A0, c0, rfl, l0, g0⟩ := h
  exact ⟨A0, c0, rfl, l0, g0⟩
theorem k49_openM {w : World} {base : Nat} {ok : Nat → Prop} {x : S32} {cs : List Value} (h : k32.M w base ok x cs) : ∃ v0, cs = [v0] ∧ k35.R 35 w base ok v0 x.f0 := by
  obtain ⟨v0, rfl, g0⟩ := h
  exact ⟨v0, rfl, g0⟩
theorem k49_mk (w : World) (x : S32) {A0 : Option Addr} {c0 : Nat} (l0 : x.f0.length ≤ c0) (g0 : k35.C w A0 x.f0.length x.f0) : k32.K w x [.slice A0 x.f0.length c0] := ⟨A0, c0, rfl, l0, g0⟩
theorem k49_mkM (w : World) (base : Nat) (ok : Nat → Prop) (x : S32) {v0 : Value} (g0 : k35.R 35 w base ok v0 x.f0) : k32.M w base ok x [v0] := ⟨v0, rfl, g0⟩
def rd_T32 (xs : List S32) (i : Int) : S32 := xs.getD i.toNat z32
theorem at_T32 {w : World} {A : Option Addr} {n : Nat} {xs : List S32} (h : Kd.C k32 w A n xs) (i : Int) (h0 : 0 ≤ i) (h1 : i < n) : ∃ ad A0 c0, A = some ad ∧ w.cell? (ad.add i.toNat) = some (.slice A0 (rd_T32 xs i).f0.length c0) ∧ (rd_T32 xs i).f0.length ≤ c0 ∧ k35.C w A0 (rd_T32 xs i).f0.length (rd_T32 xs i).f0 := by
  obtain ⟨ad, c, e, _, hK, hc0⟩ := Kd.C_get h z32 i h0 h1
  have hc : ∀ j u, c[j]? = some u → w.cell? (ad.add (i.toNat * 1 + j)) = some u := hc0
  obtain ⟨A0, c0, rfl, l0, g0⟩ := k49_open hK
  exact ⟨ad, A0, c0, e, by have hq := hc 0 _ rfl; rwa [Nat.mul_one, Nat.add_zero] at hq, l0, g0⟩

end Go.Proofs.YtggibjbcbicpjaaDoor.QLexWhere
