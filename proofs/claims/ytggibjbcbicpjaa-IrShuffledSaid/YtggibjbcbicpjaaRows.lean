/-
  No cell of these rows narrows 'for every input' (looked for: loops, veiled, ifaces, maps, wideKeys, modest, calm, conditions, laid).
  DERIVED. THE GIVEN ROWS OF THIS SEAT. 16 by the template 'for every input the law returns true; each argument reads behind the call as it read before'; 0 by the template 'total and deterministic' (their statements: YtggibjbcbicpjaaTotals.lean).
  GIVEN WITH THE SEED: the statements are not yours to turn. If you find one false, say at which input.
  Laid BY PROGRAM, IN A SANDBOX (cutbox-rows.mjs): the forced cells as the released guide's own fill.sh prints them over the translation ac5ac3ae266a3327… (all of the seat's roots in one cut). By AI agents, Wed Nov 11 2026. No macro, syntax, notation, axiom, sorry.
-/
import Derived.Test.YtggibjbcbicpjaaChecked
import GoSem.Claim
import GoSem.ClaimJoined
import GoSem.ClaimMapViews
import Derived.JoinedTies
import Derived.KernelRfl
namespace Go.Proofs.Ytggibjbcbicpjaa
/- THE CELL 'sum', in the pinned program and in every row, IS THE sha256 OF THE DUMP (.gsa) THAT YtggibjbcbicpjaaProg.lean LOADS. Nothing in Lean hashes anything: it is a label: what it is worth is what the hold of that sum in a sandbox is worth. -/
noncomputable def Try.pinned : Pinned := { name := "ytggibjbcbicpjaa", sum := "ac5ac3ae266a33279cc1c37d0ef18e11225ac17b1f62713bd64d2bccbb87a0ce", checked := Try.checked }
namespace Rows
def none {H : Type} : Left H := { results := [], args := [] }

/-- 'plnlaw12.EditSwaps': WHATEVER THE INPUT: true; the input reads as it did. -/
def editSwapsSpec : ChangeSpec := { name := "editSwaps", fn := fun _ => fun
  | [d1, d2, d3, d4] => { results := [.lit (.bool true)], args := [d1, d2, d3, d4] }
  | _ => none }
def editSwapsRow : OpenClaim := { program := "ytggibjbcbicpjaa", sum := "ac5ac3ae266a33279cc1c37d0ef18e11225ac17b1f62713bd64d2bccbb87a0ce", func := "planish/plnlaw12.EditSwaps", spec := "editSwaps", apart := false }
def EditSwapsSaid : Prop := editSwapsRow.holds Try.pinned (OpenSpec.ofChange editSwapsSpec)

/-- ITS FALSE NEIGHBOUR: 'it returns false'. Refute it at one input. -/
def editSwapsWrong : ChangeSpec := { name := "editSwaps", fn := fun _ => fun
  | [d1, d2, d3, d4] => { results := [.lit (.bool false)], args := [d1, d2, d3, d4] }
  | _ => none }
def EditSwapsWrongFalsely : Prop := editSwapsRow.holds Try.pinned (OpenSpec.ofChange editSwapsWrong)

/-- 'plnlaw3.IrNeat': WHATEVER THE INPUT: true; the input reads as it did. -/
def irNeatSpec : ChangeSpec := { name := "irNeat", fn := fun _ => fun
  | [d] => { results := [.lit (.bool true)], args := [d] }
  | _ => none }
def irNeatRow : OpenClaim := { program := "ytggibjbcbicpjaa", sum := "ac5ac3ae266a33279cc1c37d0ef18e11225ac17b1f62713bd64d2bccbb87a0ce", func := "planish/plnlaw3.IrNeat", spec := "irNeat", apart := false }
def IrNeatSaid : Prop := irNeatRow.holds Try.pinned (OpenSpec.ofChange irNeatSpec)

/-- ITS FALSE NEIGHBOUR: 'it returns false'. Refute it at one input. -/
def irNeatWrong : ChangeSpec := { name := "irNeat", fn := fun _ => fun
  | [d] => { results := [.lit (.bool false)], args := [d] }
  | _ => none }
def IrNeatWrongFalsely : Prop := irNeatRow.holds Try.pinned (OpenSpec.ofChange irNeatWrong)

/-- 'plnlaw3.IrShuffled': WHATEVER THE INPUT: true; the input reads as it did. -/
def irShuffledSpec : ChangeSpec := { name := "irShuffled", fn := fun _ => fun
  | [d1, d2, d3] => { results := [.lit (.bool true)], args := [d1, d2, d3] }
  | _ => none }
def irShuffledRow : OpenClaim := { program := "ytggibjbcbicpjaa", sum := "ac5ac3ae266a33279cc1c37d0ef18e11225ac17b1f62713bd64d2bccbb87a0ce", func := "planish/plnlaw3.IrShuffled", spec := "irShuffled", apart := false }
def IrShuffledSaid : Prop := irShuffledRow.holds Try.pinned (OpenSpec.ofChange irShuffledSpec)

/-- ITS FALSE NEIGHBOUR: 'it returns false'. Refute it at one input. -/
def irShuffledWrong : ChangeSpec := { name := "irShuffled", fn := fun _ => fun
  | [d1, d2, d3] => { results := [.lit (.bool false)], args := [d1, d2, d3] }
  | _ => none }
def IrShuffledWrongFalsely : Prop := irShuffledRow.holds Try.pinned (OpenSpec.ofChange irShuffledWrong)

/-- 'plnlaw3.IrApart': WHATEVER THE INPUT: true; the input reads as it did. -/
def irApartSpec : ChangeSpec := { name := "irApart", fn := fun _ => fun
  | [d] => { results := [.lit (.bool true)], args := [d] }
  | _ => none }
def irApartRow : OpenClaim := { program := "ytggibjbcbicpjaa", sum := "ac5ac3ae266a33279cc1c37d0ef18e11225ac17b1f62713bd64d2bccbb87a0ce", func := "planish/plnlaw3.IrApart", spec := "irApart", apart := false }
def IrApartSaid : Prop := irApartRow.holds Try.pinned (OpenSpec.ofChange irApartSpec)

/-- ITS FALSE NEIGHBOUR: 'it returns false'. Refute it at one input. -/
def irApartWrong : ChangeSpec := { name := "irApart", fn := fun _ => fun
  | [d] => { results := [.lit (.bool false)], args := [d] }
  | _ => none }
def IrApartWrongFalsely : Prop := irApartRow.holds Try.pinned (OpenSpec.ofChange irApartWrong)

/-- 'plnlaw14.SccTells': WHATEVER THE INPUT: true; the input reads as it did. -/
def sccTellsSpec : ChangeSpec := { name := "sccTells", fn := fun _ => fun
  | [d1, d2] => { results := [.lit (.bool true)], args := [d1, d2] }
  | _ => none }
def sccTellsRow : OpenClaim := { program := "ytggibjbcbicpjaa", sum := "ac5ac3ae266a33279cc1c37d0ef18e11225ac17b1f62713bd64d2bccbb87a0ce", func := "planish/plnlaw14.SccTells", spec := "sccTells", apart := false }
def SccTellsSaid : Prop := sccTellsRow.holds Try.pinned (OpenSpec.ofChange sccTellsSpec)

/-- ITS FALSE NEIGHBOUR: 'it returns false'. Refute it at one input. -/
def sccTellsWrong : ChangeSpec := { name := "sccTells", fn := fun _ => fun
  | [d1, d2] => { results := [.lit (.bool false)], args := [d1, d2] }
  | _ => none }
def SccTellsWrongFalsely : Prop := sccTellsRow.holds Try.pinned (OpenSpec.ofChange sccTellsWrong)

/-- 'plnlaw14.SccOrders': WHATEVER THE INPUT: true; the input reads as it did. -/
def sccOrdersSpec : ChangeSpec := { name := "sccOrders", fn := fun _ => fun
  | [d] => { results := [.lit (.bool true)], args := [d] }
  | _ => none }
def sccOrdersRow : OpenClaim := { program := "ytggibjbcbicpjaa", sum := "ac5ac3ae266a33279cc1c37d0ef18e11225ac17b1f62713bd64d2bccbb87a0ce", func := "planish/plnlaw14.SccOrders", spec := "sccOrders", apart := false }
def SccOrdersSaid : Prop := sccOrdersRow.holds Try.pinned (OpenSpec.ofChange sccOrdersSpec)

/-- ITS FALSE NEIGHBOUR: 'it returns false'. Refute it at one input. -/
def sccOrdersWrong : ChangeSpec := { name := "sccOrders", fn := fun _ => fun
  | [d] => { results := [.lit (.bool false)], args := [d] }
  | _ => none }
def SccOrdersWrongFalsely : Prop := sccOrdersRow.holds Try.pinned (OpenSpec.ofChange sccOrdersWrong)

/-- 'plnlaw14.SccRings': WHATEVER THE INPUT: true; the input reads as it did. -/
def sccRingsSpec : ChangeSpec := { name := "sccRings", fn := fun _ => fun
  | [d1, d2] => { results := [.lit (.bool true)], args := [d1, d2] }
  | _ => none }
def sccRingsRow : OpenClaim := { program := "ytggibjbcbicpjaa", sum := "ac5ac3ae266a33279cc1c37d0ef18e11225ac17b1f62713bd64d2bccbb87a0ce", func := "planish/plnlaw14.SccRings", spec := "sccRings", apart := false }
def SccRingsSaid : Prop := sccRingsRow.holds Try.pinned (OpenSpec.ofChange sccRingsSpec)

/-- ITS FALSE NEIGHBOUR: 'it returns false'. Refute it at one input. -/
def sccRingsWrong : ChangeSpec := { name := "sccRings", fn := fun _ => fun
  | [d1, d2] => { results := [.lit (.bool false)], args := [d1, d2] }
  | _ => none }
def SccRingsWrongFalsely : Prop := sccRingsRow.holds Try.pinned (OpenSpec.ofChange sccRingsWrong)

/-- 'plnlaw14.SccAlone': WHATEVER THE INPUT: true; the input reads as it did. -/
def sccAloneSpec : ChangeSpec := { name := "sccAlone", fn := fun _ => fun
  | [d1, d2] => { results := [.lit (.bool true)], args := [d1, d2] }
  | _ => none }
def sccAloneRow : OpenClaim := { program := "ytggibjbcbicpjaa", sum := "ac5ac3ae266a33279cc1c37d0ef18e11225ac17b1f62713bd64d2bccbb87a0ce", func := "planish/plnlaw14.SccAlone", spec := "sccAlone", apart := false }
def SccAloneSaid : Prop := sccAloneRow.holds Try.pinned (OpenSpec.ofChange sccAloneSpec)

/-- ITS FALSE NEIGHBOUR: 'it returns false'. Refute it at one input. -/
def sccAloneWrong : ChangeSpec := { name := "sccAlone", fn := fun _ => fun
  | [d1, d2] => { results := [.lit (.bool false)], args := [d1, d2] }
  | _ => none }
def SccAloneWrongFalsely : Prop := sccAloneRow.holds Try.pinned (OpenSpec.ofChange sccAloneWrong)

/-- 'plnlaw3.IrTurned': WHATEVER THE INPUT: true; the input reads as it did. -/
def irTurnedSpec : ChangeSpec := { name := "irTurned", fn := fun _ => fun
  | [d1, d2, d3, d4, d5] => { results := [.lit (.bool true)], args := [d1, d2, d3, d4, d5] }
  | _ => none }
def irTurnedRow : OpenClaim := { program := "ytggibjbcbicpjaa", sum := "ac5ac3ae266a33279cc1c37d0ef18e11225ac17b1f62713bd64d2bccbb87a0ce", func := "planish/plnlaw3.IrTurned", spec := "irTurned", unfollowed := true, recurses := true, apart := false }
def IrTurnedSaid : Prop := irTurnedRow.holds Try.pinned (OpenSpec.ofChange irTurnedSpec)

/-- ITS FALSE NEIGHBOUR: 'it returns false'. Refute it at one input. -/
def irTurnedWrong : ChangeSpec := { name := "irTurned", fn := fun _ => fun
  | [d1, d2, d3, d4, d5] => { results := [.lit (.bool false)], args := [d1, d2, d3, d4, d5] }
  | _ => none }
def IrTurnedWrongFalsely : Prop := irTurnedRow.holds Try.pinned (OpenSpec.ofChange irTurnedWrong)

/-- 'plnlaw3.IrTells': WHATEVER THE INPUT: true; the input reads as it did. -/
def irTellsSpec : ChangeSpec := { name := "irTells", fn := fun _ => fun
  | [d1, d2] => { results := [.lit (.bool true)], args := [d1, d2] }
  | _ => none }
def irTellsRow : OpenClaim := { program := "ytggibjbcbicpjaa", sum := "ac5ac3ae266a33279cc1c37d0ef18e11225ac17b1f62713bd64d2bccbb87a0ce", func := "planish/plnlaw3.IrTells", spec := "irTells", unfollowed := true, recurses := true, apart := false }
def IrTellsSaid : Prop := irTellsRow.holds Try.pinned (OpenSpec.ofChange irTellsSpec)

/-- ITS FALSE NEIGHBOUR: 'it returns false'. Refute it at one input. -/
def irTellsWrong : ChangeSpec := { name := "irTells", fn := fun _ => fun
  | [d1, d2] => { results := [.lit (.bool false)], args := [d1, d2] }
  | _ => none }
def IrTellsWrongFalsely : Prop := irTellsRow.holds Try.pinned (OpenSpec.ofChange irTellsWrong)

/-- 'plnlaw12.EditNumbers': WHATEVER THE INPUT: true; the input reads as it did. -/
def editNumbersSpec : ChangeSpec := { name := "editNumbers", fn := fun _ => fun
  | [d1, d2, d3, d4] => { results := [.lit (.bool true)], args := [d1, d2, d3, d4] }
  | _ => none }
def editNumbersRow : OpenClaim := { program := "ytggibjbcbicpjaa", sum := "ac5ac3ae266a33279cc1c37d0ef18e11225ac17b1f62713bd64d2bccbb87a0ce", func := "planish/plnlaw12.EditNumbers", spec := "editNumbers", inPlace := ["slices.overlaps[planish/api.Ins]"], apart := false }
def EditNumbersSaid : Prop := editNumbersRow.holds Try.pinned (OpenSpec.ofChange editNumbersSpec)

/-- ITS FALSE NEIGHBOUR: 'it returns false'. Refute it at one input. -/
def editNumbersWrong : ChangeSpec := { name := "editNumbers", fn := fun _ => fun
  | [d1, d2, d3, d4] => { results := [.lit (.bool false)], args := [d1, d2, d3, d4] }
  | _ => none }
def EditNumbersWrongFalsely : Prop := editNumbersRow.holds Try.pinned (OpenSpec.ofChange editNumbersWrong)

/-- 'plnlaw12.EditNothing': WHATEVER THE INPUT: true; the input reads as it did. -/
def editNothingSpec : ChangeSpec := { name := "editNothing", fn := fun _ => fun
  | [d1, d2, d3, d4] => { results := [.lit (.bool true)], args := [d1, d2, d3, d4] }
  | _ => none }
def editNothingRow : OpenClaim := { program := "ytggibjbcbicpjaa", sum := "ac5ac3ae266a33279cc1c37d0ef18e11225ac17b1f62713bd64d2bccbb87a0ce", func := "planish/plnlaw12.EditNothing", spec := "editNothing", inPlace := ["slices.overlaps[planish/api.Ins]"], apart := false }
def EditNothingSaid : Prop := editNothingRow.holds Try.pinned (OpenSpec.ofChange editNothingSpec)

/-- ITS FALSE NEIGHBOUR: 'it returns false'. Refute it at one input. -/
def editNothingWrong : ChangeSpec := { name := "editNothing", fn := fun _ => fun
  | [d1, d2, d3, d4] => { results := [.lit (.bool false)], args := [d1, d2, d3, d4] }
  | _ => none }
def EditNothingWrongFalsely : Prop := editNothingRow.holds Try.pinned (OpenSpec.ofChange editNothingWrong)

/-- 'plnlaw12.EditTells': WHATEVER THE INPUT: true; the input reads as it did. -/
def editTellsSpec : ChangeSpec := { name := "editTells", fn := fun _ => fun
  | [d1, d2, d3, d4, d5, d6, d7] => { results := [.lit (.bool true)], args := [d1, d2, d3, d4, d5, d6, d7] }
  | _ => none }
def editTellsRow : OpenClaim := { program := "ytggibjbcbicpjaa", sum := "ac5ac3ae266a33279cc1c37d0ef18e11225ac17b1f62713bd64d2bccbb87a0ce", func := "planish/plnlaw12.EditTells", spec := "editTells", inPlace := ["slices.overlaps[planish/api.Ins]"], apart := false }
def EditTellsSaid : Prop := editTellsRow.holds Try.pinned (OpenSpec.ofChange editTellsSpec)

/-- ITS FALSE NEIGHBOUR: 'it returns false'. Refute it at one input. -/
def editTellsWrong : ChangeSpec := { name := "editTells", fn := fun _ => fun
  | [d1, d2, d3, d4, d5, d6, d7] => { results := [.lit (.bool false)], args := [d1, d2, d3, d4, d5, d6, d7] }
  | _ => none }
def EditTellsWrongFalsely : Prop := editTellsRow.holds Try.pinned (OpenSpec.ofChange editTellsWrong)

/-- 'plnlaw9.CodeTells': WHATEVER THE INPUT: true; the input reads as it did. -/
def codeTellsSpec : ChangeSpec := { name := "codeTells", fn := fun _ => fun
  | [d1, d2, d3, d4, d5] => { results := [.lit (.bool true)], args := [d1, d2, d3, d4, d5] }
  | _ => none }
def codeTellsRow : OpenClaim := { program := "ytggibjbcbicpjaa", sum := "ac5ac3ae266a33279cc1c37d0ef18e11225ac17b1f62713bd64d2bccbb87a0ce", func := "planish/plnlaw9.CodeTells", spec := "codeTells", recurses := true, apart := false }
def CodeTellsSaid : Prop := codeTellsRow.holds Try.pinned (OpenSpec.ofChange codeTellsSpec)

/-- ITS FALSE NEIGHBOUR: 'it returns false'. Refute it at one input. -/
def codeTellsWrong : ChangeSpec := { name := "codeTells", fn := fun _ => fun
  | [d1, d2, d3, d4, d5] => { results := [.lit (.bool false)], args := [d1, d2, d3, d4, d5] }
  | _ => none }
def CodeTellsWrongFalsely : Prop := codeTellsRow.holds Try.pinned (OpenSpec.ofChange codeTellsWrong)

/-- 'plnlaw9.CodeBack': WHATEVER THE INPUT: true; the input reads as it did. -/
def codeBackSpec : ChangeSpec := { name := "codeBack", fn := fun _ => fun
  | [d1, d2] => { results := [.lit (.bool true)], args := [d1, d2] }
  | _ => none }
def codeBackRow : OpenClaim := { program := "ytggibjbcbicpjaa", sum := "ac5ac3ae266a33279cc1c37d0ef18e11225ac17b1f62713bd64d2bccbb87a0ce", func := "planish/plnlaw9.CodeBack", spec := "codeBack", recurses := true, apart := false }
def CodeBackSaid : Prop := codeBackRow.holds Try.pinned (OpenSpec.ofChange codeBackSpec)

/-- ITS FALSE NEIGHBOUR: 'it returns false'. Refute it at one input. -/
def codeBackWrong : ChangeSpec := { name := "codeBack", fn := fun _ => fun
  | [d1, d2] => { results := [.lit (.bool false)], args := [d1, d2] }
  | _ => none }
def CodeBackWrongFalsely : Prop := codeBackRow.holds Try.pinned (OpenSpec.ofChange codeBackWrong)

/-- 'plnlaw9.CodeCut': WHATEVER THE INPUT: true; the input reads as it did. -/
def codeCutSpec : ChangeSpec := { name := "codeCut", fn := fun _ => fun
  | [d1, d2, d3, d4] => { results := [.lit (.bool true)], args := [d1, d2, d3, d4] }
  | _ => none }
def codeCutRow : OpenClaim := { program := "ytggibjbcbicpjaa", sum := "ac5ac3ae266a33279cc1c37d0ef18e11225ac17b1f62713bd64d2bccbb87a0ce", func := "planish/plnlaw9.CodeCut", spec := "codeCut", recurses := true, apart := false }
def CodeCutSaid : Prop := codeCutRow.holds Try.pinned (OpenSpec.ofChange codeCutSpec)

/-- ITS FALSE NEIGHBOUR: 'it returns false'. Refute it at one input. -/
def codeCutWrong : ChangeSpec := { name := "codeCut", fn := fun _ => fun
  | [d1, d2, d3, d4] => { results := [.lit (.bool false)], args := [d1, d2, d3, d4] }
  | _ => none }
def CodeCutWrongFalsely : Prop := codeCutRow.holds Try.pinned (OpenSpec.ofChange codeCutWrong)

/- THE SECOND FORM. 'bulk': how many values and letters a reading holds, each counted each time it is reached (what is shared counts as often as it is met; a slice's spare places count too). A statement '..UptoSaid' is the law's where the arguments, and the package variables that the reading takes, are together of bulk at most 1048576: NARROWER than '..Said'. Prove '..Said' where nothing that the law and all that it calls make is longer than what came in: it says more and counts as full. Else prove '..UptoSaid'. A law counts once. -/
mutual
def uptoBulk {H : Type} : DataW H → Nat
  | .lit (.string bytes) => bytes.length + 1
  | .lit _ => 1
  | .nil => 1
  | .ptr d => uptoBulk d + 1
  | .slice elems spare => uptoBulkAll elems + uptoBulkAll spare + 1
  | .agg parts => uptoBulkAll parts + 1
  | .iface _ d => uptoBulk d + 1
  | .map entries => uptoBulkEntries entries + 1
  | .held _ => 1
def uptoBulkAll {H : Type} : List (DataW H) → Nat
  | [] => 0
  | d :: r => uptoBulk d + uptoBulkAll r
def uptoBulkEntries {H : Type} : List (Lit × DataW H) → Nat
  | [] => 0
  | x :: r => uptoBulkEntry x + uptoBulkEntries r
def uptoBulkEntry {H : Type} : Lit × DataW H → Nat
  | (.string bytes, d) => bytes.length + uptoBulk d + 1
  | (_, d) => uptoBulk d + 1
 end
def uptoSmall : (H : Type) → List (DataW H) → Bool := fun _ ds => decide (uptoBulkAll ds ≤ 1048576)
def OpenSpec.upto (s : _root_.Go.ChangeSpec) : _root_.Go.OpenSpec := { _root_.Go.OpenSpec.ofChange s with cond := some uptoSmall }

/-- 'plnlaw12.EditSwaps', WHERE WHAT IT READS IS OF BULK AT MOST 1048576: true; the input reads as it did. -/
def editSwapsUptoRow : OpenClaim := { program := "ytggibjbcbicpjaa", sum := "ac5ac3ae266a33279cc1c37d0ef18e11225ac17b1f62713bd64d2bccbb87a0ce", func := "planish/plnlaw12.EditSwaps", spec := "editSwaps", apart := false, narrowed := true }
def EditSwapsUptoSaid : Prop := editSwapsUptoRow.holds Try.pinned (OpenSpec.upto editSwapsSpec)

/-- 'plnlaw3.IrNeat', WHERE WHAT IT READS IS OF BULK AT MOST 1048576: true; the input reads as it did. -/
def irNeatUptoRow : OpenClaim := { program := "ytggibjbcbicpjaa", sum := "ac5ac3ae266a33279cc1c37d0ef18e11225ac17b1f62713bd64d2bccbb87a0ce", func := "planish/plnlaw3.IrNeat", spec := "irNeat", apart := false, narrowed := true }
def IrNeatUptoSaid : Prop := irNeatUptoRow.holds Try.pinned (OpenSpec.upto irNeatSpec)

/-- 'plnlaw3.IrShuffled', WHERE WHAT IT READS IS OF BULK AT MOST 1048576: true; the input reads as it did. -/
def irShuffledUptoRow : OpenClaim := { program := "ytggibjbcbicpjaa", sum := "ac5ac3ae266a33279cc1c37d0ef18e11225ac17b1f62713bd64d2bccbb87a0ce", func := "planish/plnlaw3.IrShuffled", spec := "irShuffled", apart := false, narrowed := true }
def IrShuffledUptoSaid : Prop := irShuffledUptoRow.holds Try.pinned (OpenSpec.upto irShuffledSpec)

/-- 'plnlaw3.IrApart', WHERE WHAT IT READS IS OF BULK AT MOST 1048576: true; the input reads as it did. -/
def irApartUptoRow : OpenClaim := { program := "ytggibjbcbicpjaa", sum := "ac5ac3ae266a33279cc1c37d0ef18e11225ac17b1f62713bd64d2bccbb87a0ce", func := "planish/plnlaw3.IrApart", spec := "irApart", apart := false, narrowed := true }
def IrApartUptoSaid : Prop := irApartUptoRow.holds Try.pinned (OpenSpec.upto irApartSpec)

/-- 'plnlaw14.SccTells', WHERE WHAT IT READS IS OF BULK AT MOST 1048576: true; the input reads as it did. -/
def sccTellsUptoRow : OpenClaim := { program := "ytggibjbcbicpjaa", sum := "ac5ac3ae266a33279cc1c37d0ef18e11225ac17b1f62713bd64d2bccbb87a0ce", func := "planish/plnlaw14.SccTells", spec := "sccTells", apart := false, narrowed := true }
def SccTellsUptoSaid : Prop := sccTellsUptoRow.holds Try.pinned (OpenSpec.upto sccTellsSpec)

/-- 'plnlaw14.SccOrders', WHERE WHAT IT READS IS OF BULK AT MOST 1048576: true; the input reads as it did. -/
def sccOrdersUptoRow : OpenClaim := { program := "ytggibjbcbicpjaa", sum := "ac5ac3ae266a33279cc1c37d0ef18e11225ac17b1f62713bd64d2bccbb87a0ce", func := "planish/plnlaw14.SccOrders", spec := "sccOrders", apart := false, narrowed := true }
def SccOrdersUptoSaid : Prop := sccOrdersUptoRow.holds Try.pinned (OpenSpec.upto sccOrdersSpec)

/-- 'plnlaw14.SccRings', WHERE WHAT IT READS IS OF BULK AT MOST 1048576: true; the input reads as it did. -/
def sccRingsUptoRow : OpenClaim := { program := "ytggibjbcbicpjaa", sum := "ac5ac3ae266a33279cc1c37d0ef18e11225ac17b1f62713bd64d2bccbb87a0ce", func := "planish/plnlaw14.SccRings", spec := "sccRings", apart := false, narrowed := true }
def SccRingsUptoSaid : Prop := sccRingsUptoRow.holds Try.pinned (OpenSpec.upto sccRingsSpec)

/-- 'plnlaw14.SccAlone', WHERE WHAT IT READS IS OF BULK AT MOST 1048576: true; the input reads as it did. -/
def sccAloneUptoRow : OpenClaim := { program := "ytggibjbcbicpjaa", sum := "ac5ac3ae266a33279cc1c37d0ef18e11225ac17b1f62713bd64d2bccbb87a0ce", func := "planish/plnlaw14.SccAlone", spec := "sccAlone", apart := false, narrowed := true }
def SccAloneUptoSaid : Prop := sccAloneUptoRow.holds Try.pinned (OpenSpec.upto sccAloneSpec)

/-- 'plnlaw3.IrTurned', WHERE WHAT IT READS IS OF BULK AT MOST 1048576: true; the input reads as it did. -/
def irTurnedUptoRow : OpenClaim := { program := "ytggibjbcbicpjaa", sum := "ac5ac3ae266a33279cc1c37d0ef18e11225ac17b1f62713bd64d2bccbb87a0ce", func := "planish/plnlaw3.IrTurned", spec := "irTurned", unfollowed := true, recurses := true, apart := false, narrowed := true }
def IrTurnedUptoSaid : Prop := irTurnedUptoRow.holds Try.pinned (OpenSpec.upto irTurnedSpec)

/-- 'plnlaw3.IrTells', WHERE WHAT IT READS IS OF BULK AT MOST 1048576: true; the input reads as it did. -/
def irTellsUptoRow : OpenClaim := { program := "ytggibjbcbicpjaa", sum := "ac5ac3ae266a33279cc1c37d0ef18e11225ac17b1f62713bd64d2bccbb87a0ce", func := "planish/plnlaw3.IrTells", spec := "irTells", unfollowed := true, recurses := true, apart := false, narrowed := true }
def IrTellsUptoSaid : Prop := irTellsUptoRow.holds Try.pinned (OpenSpec.upto irTellsSpec)

/-- 'plnlaw12.EditNumbers', WHERE WHAT IT READS IS OF BULK AT MOST 1048576: true; the input reads as it did. -/
def editNumbersUptoRow : OpenClaim := { program := "ytggibjbcbicpjaa", sum := "ac5ac3ae266a33279cc1c37d0ef18e11225ac17b1f62713bd64d2bccbb87a0ce", func := "planish/plnlaw12.EditNumbers", spec := "editNumbers", inPlace := ["slices.overlaps[planish/api.Ins]"], apart := false, narrowed := true }
def EditNumbersUptoSaid : Prop := editNumbersUptoRow.holds Try.pinned (OpenSpec.upto editNumbersSpec)

/-- 'plnlaw12.EditNothing', WHERE WHAT IT READS IS OF BULK AT MOST 1048576: true; the input reads as it did. -/
def editNothingUptoRow : OpenClaim := { program := "ytggibjbcbicpjaa", sum := "ac5ac3ae266a33279cc1c37d0ef18e11225ac17b1f62713bd64d2bccbb87a0ce", func := "planish/plnlaw12.EditNothing", spec := "editNothing", inPlace := ["slices.overlaps[planish/api.Ins]"], apart := false, narrowed := true }
def EditNothingUptoSaid : Prop := editNothingUptoRow.holds Try.pinned (OpenSpec.upto editNothingSpec)

/-- 'plnlaw12.EditTells', WHERE WHAT IT READS IS OF BULK AT MOST 1048576: true; the input reads as it did. -/
def editTellsUptoRow : OpenClaim := { program := "ytggibjbcbicpjaa", sum := "ac5ac3ae266a33279cc1c37d0ef18e11225ac17b1f62713bd64d2bccbb87a0ce", func := "planish/plnlaw12.EditTells", spec := "editTells", inPlace := ["slices.overlaps[planish/api.Ins]"], apart := false, narrowed := true }
def EditTellsUptoSaid : Prop := editTellsUptoRow.holds Try.pinned (OpenSpec.upto editTellsSpec)

/-- 'plnlaw9.CodeTells', WHERE WHAT IT READS IS OF BULK AT MOST 1048576: true; the input reads as it did. -/
def codeTellsUptoRow : OpenClaim := { program := "ytggibjbcbicpjaa", sum := "ac5ac3ae266a33279cc1c37d0ef18e11225ac17b1f62713bd64d2bccbb87a0ce", func := "planish/plnlaw9.CodeTells", spec := "codeTells", recurses := true, apart := false, narrowed := true }
def CodeTellsUptoSaid : Prop := codeTellsUptoRow.holds Try.pinned (OpenSpec.upto codeTellsSpec)

/-- 'plnlaw9.CodeBack', WHERE WHAT IT READS IS OF BULK AT MOST 1048576: true; the input reads as it did. -/
def codeBackUptoRow : OpenClaim := { program := "ytggibjbcbicpjaa", sum := "ac5ac3ae266a33279cc1c37d0ef18e11225ac17b1f62713bd64d2bccbb87a0ce", func := "planish/plnlaw9.CodeBack", spec := "codeBack", recurses := true, apart := false, narrowed := true }
def CodeBackUptoSaid : Prop := codeBackUptoRow.holds Try.pinned (OpenSpec.upto codeBackSpec)

/-- 'plnlaw9.CodeCut', WHERE WHAT IT READS IS OF BULK AT MOST 1048576: true; the input reads as it did. -/
def codeCutUptoRow : OpenClaim := { program := "ytggibjbcbicpjaa", sum := "ac5ac3ae266a33279cc1c37d0ef18e11225ac17b1f62713bd64d2bccbb87a0ce", func := "planish/plnlaw9.CodeCut", spec := "codeCut", recurses := true, apart := false, narrowed := true }
def CodeCutUptoSaid : Prop := codeCutUptoRow.holds Try.pinned (OpenSpec.upto codeCutSpec)

end Rows
end Go.Proofs.Ytggibjbcbicpjaa
