/-
  No cell of these rows narrows 'for every input' (looked for: loops, veiled, ifaces, maps, wideKeys, modest, calm, conditions, laid).
  DERIVED. THE GIVEN ROWS OF THIS SEAT. 15 by the template 'for every input the law returns true; each argument reads behind the call as it read before'; 0 by the template 'total and deterministic' (their statements: YtnibdgjlbhdmfaaTotals.lean).
  GIVEN WITH THE SEED: the statements are not yours to turn. If you find one false, say at which input.
  Laid BY PROGRAM, IN A SANDBOX (cutbox-rows.mjs): the forced cells as the released guide's own fill.sh prints them over the translation 8ade14c15f3b470e… (all of the seat's roots in one cut). By AI agents, Wed Nov 11 2026. No macro, syntax, notation, axiom, sorry.
-/
import Derived.Test.YtnibdgjlbhdmfaaChecked
import GoSem.Claim
import GoSem.ClaimJoined
import GoSem.ClaimMapViews
import Derived.JoinedTies
import Derived.KernelRfl
namespace Go.Proofs.Ytnibdgjlbhdmfaa
/- THE CELL 'sum', in the pinned program and in every row, IS THE sha256 OF THE DUMP (.gsa) THAT YtnibdgjlbhdmfaaProg.lean LOADS. Nothing in Lean hashes anything: it is a label: what it is worth is what the hold of that sum in a sandbox is worth. -/
noncomputable def Try.pinned : Pinned := { name := "ytnibdgjlbhdmfaa", sum := "8ade14c15f3b470ee6e6353818f66c163fa703b5b8fb1dfdf2df6e52f64ac65e", checked := Try.checked }
namespace Rows
def none {H : Type} : Left H := { results := [], args := [] }

/-- 'plnlaw10.MemPlays': WHATEVER THE INPUT: true; the input reads as it did. -/
def memPlaysSpec : ChangeSpec := { name := "memPlays", fn := fun _ => fun
  | [d] => { results := [.lit (.bool true)], args := [d] }
  | _ => none }
def memPlaysRow : OpenClaim := { program := "ytnibdgjlbhdmfaa", sum := "8ade14c15f3b470ee6e6353818f66c163fa703b5b8fb1dfdf2df6e52f64ac65e", func := "planish/plnlaw10.MemPlays", spec := "memPlays", apart := false }
def MemPlaysSaid : Prop := memPlaysRow.holds Try.pinned (OpenSpec.ofChange memPlaysSpec)

/-- ITS FALSE NEIGHBOUR: 'it returns false'. Refute it at one input. -/
def memPlaysWrong : ChangeSpec := { name := "memPlays", fn := fun _ => fun
  | [d] => { results := [.lit (.bool false)], args := [d] }
  | _ => none }
def MemPlaysWrongFalsely : Prop := memPlaysRow.holds Try.pinned (OpenSpec.ofChange memPlaysWrong)

/-- 'plnlaw10.MemLast': WHATEVER THE INPUT: true; the input reads as it did. -/
def memLastSpec : ChangeSpec := { name := "memLast", fn := fun _ => fun
  | [d1, d2, d3, d4, d5] => { results := [.lit (.bool true)], args := [d1, d2, d3, d4, d5] }
  | _ => none }
def memLastRow : OpenClaim := { program := "ytnibdgjlbhdmfaa", sum := "8ade14c15f3b470ee6e6353818f66c163fa703b5b8fb1dfdf2df6e52f64ac65e", func := "planish/plnlaw10.MemLast", spec := "memLast", apart := false }
def MemLastSaid : Prop := memLastRow.holds Try.pinned (OpenSpec.ofChange memLastSpec)

/-- ITS FALSE NEIGHBOUR: 'it returns false'. Refute it at one input. -/
def memLastWrong : ChangeSpec := { name := "memLast", fn := fun _ => fun
  | [d1, d2, d3, d4, d5] => { results := [.lit (.bool false)], args := [d1, d2, d3, d4, d5] }
  | _ => none }
def MemLastWrongFalsely : Prop := memLastRow.holds Try.pinned (OpenSpec.ofChange memLastWrong)

/-- 'plnlaw10.MemCopies': WHATEVER THE INPUT: true; the input reads as it did. -/
def memCopiesSpec : ChangeSpec := { name := "memCopies", fn := fun _ => fun
  | [d1, d2, d3] => { results := [.lit (.bool true)], args := [d1, d2, d3] }
  | _ => none }
def memCopiesRow : OpenClaim := { program := "ytnibdgjlbhdmfaa", sum := "8ade14c15f3b470ee6e6353818f66c163fa703b5b8fb1dfdf2df6e52f64ac65e", func := "planish/plnlaw10.MemCopies", spec := "memCopies", apart := false }
def MemCopiesSaid : Prop := memCopiesRow.holds Try.pinned (OpenSpec.ofChange memCopiesSpec)

/-- ITS FALSE NEIGHBOUR: 'it returns false'. Refute it at one input. -/
def memCopiesWrong : ChangeSpec := { name := "memCopies", fn := fun _ => fun
  | [d1, d2, d3] => { results := [.lit (.bool false)], args := [d1, d2, d3] }
  | _ => none }
def MemCopiesWrongFalsely : Prop := memCopiesRow.holds Try.pinned (OpenSpec.ofChange memCopiesWrong)

/-- 'plnlaw7.LexWhere': WHATEVER THE INPUT: true; the input reads as it did. -/
def lexWhereSpec : ChangeSpec := { name := "lexWhere", fn := fun _ => fun
  | [d] => { results := [.lit (.bool true)], args := [d] }
  | _ => none }
def lexWhereRow : OpenClaim := { program := "ytnibdgjlbhdmfaa", sum := "8ade14c15f3b470ee6e6353818f66c163fa703b5b8fb1dfdf2df6e52f64ac65e", func := "planish/plnlaw7.LexWhere", spec := "lexWhere", unfollowed := true, recurses := true, apart := false }
def LexWhereSaid : Prop := lexWhereRow.holds Try.pinned (OpenSpec.ofChange lexWhereSpec)

/-- ITS FALSE NEIGHBOUR: 'it returns false'. Refute it at one input. -/
def lexWhereWrong : ChangeSpec := { name := "lexWhere", fn := fun _ => fun
  | [d] => { results := [.lit (.bool false)], args := [d] }
  | _ => none }
def LexWhereWrongFalsely : Prop := lexWhereRow.holds Try.pinned (OpenSpec.ofChange lexWhereWrong)

/-- 'plnlaw7.LexJoined': WHATEVER THE INPUT: true; the input reads as it did. -/
def lexJoinedSpec : ChangeSpec := { name := "lexJoined", fn := fun _ => fun
  | [d1, d2] => { results := [.lit (.bool true)], args := [d1, d2] }
  | _ => none }
def lexJoinedRow : OpenClaim := { program := "ytnibdgjlbhdmfaa", sum := "8ade14c15f3b470ee6e6353818f66c163fa703b5b8fb1dfdf2df6e52f64ac65e", func := "planish/plnlaw7.LexJoined", spec := "lexJoined", unfollowed := true, recurses := true, apart := false }
def LexJoinedSaid : Prop := lexJoinedRow.holds Try.pinned (OpenSpec.ofChange lexJoinedSpec)

/-- ITS FALSE NEIGHBOUR: 'it returns false'. Refute it at one input. -/
def lexJoinedWrong : ChangeSpec := { name := "lexJoined", fn := fun _ => fun
  | [d1, d2] => { results := [.lit (.bool false)], args := [d1, d2] }
  | _ => none }
def LexJoinedWrongFalsely : Prop := lexJoinedRow.holds Try.pinned (OpenSpec.ofChange lexJoinedWrong)

/-- 'plnlaw2.WireOne': WHATEVER THE INPUT: true; the input reads as it did. -/
def wireOneSpec : ChangeSpec := { name := "wireOne", fn := fun _ => fun
  | [d1, d2] => { results := [.lit (.bool true)], args := [d1, d2] }
  | _ => none }
def wireOneRow : OpenClaim := { program := "ytnibdgjlbhdmfaa", sum := "8ade14c15f3b470ee6e6353818f66c163fa703b5b8fb1dfdf2df6e52f64ac65e", func := "planish/plnlaw2.WireOne", spec := "wireOne", apart := false }
def WireOneSaid : Prop := wireOneRow.holds Try.pinned (OpenSpec.ofChange wireOneSpec)

/-- ITS FALSE NEIGHBOUR: 'it returns false'. Refute it at one input. -/
def wireOneWrong : ChangeSpec := { name := "wireOne", fn := fun _ => fun
  | [d1, d2] => { results := [.lit (.bool false)], args := [d1, d2] }
  | _ => none }
def WireOneWrongFalsely : Prop := wireOneRow.holds Try.pinned (OpenSpec.ofChange wireOneWrong)

/-- 'plnlaw1.NumTells': WHATEVER THE INPUT: true; the input reads as it did. -/
def numTellsSpec : ChangeSpec := { name := "numTells", fn := fun _ => fun
  | [d1, d2, d3] => { results := [.lit (.bool true)], args := [d1, d2, d3] }
  | _ => none }
def numTellsRow : OpenClaim := { program := "ytnibdgjlbhdmfaa", sum := "8ade14c15f3b470ee6e6353818f66c163fa703b5b8fb1dfdf2df6e52f64ac65e", func := "planish/plnlaw1.NumTells", spec := "numTells", apart := false }
def NumTellsSaid : Prop := numTellsRow.holds Try.pinned (OpenSpec.ofChange numTellsSpec)

/-- ITS FALSE NEIGHBOUR: 'it returns false'. Refute it at one input. -/
def numTellsWrong : ChangeSpec := { name := "numTells", fn := fun _ => fun
  | [d1, d2, d3] => { results := [.lit (.bool false)], args := [d1, d2, d3] }
  | _ => none }
def NumTellsWrongFalsely : Prop := numTellsRow.holds Try.pinned (OpenSpec.ofChange numTellsWrong)

/-- 'plnlaw1.NumBack': WHATEVER THE INPUT: true; the input reads as it did. -/
def numBackSpec : ChangeSpec := { name := "numBack", fn := fun _ => fun
  | [d1, d2, d3] => { results := [.lit (.bool true)], args := [d1, d2, d3] }
  | _ => none }
def numBackRow : OpenClaim := { program := "ytnibdgjlbhdmfaa", sum := "8ade14c15f3b470ee6e6353818f66c163fa703b5b8fb1dfdf2df6e52f64ac65e", func := "planish/plnlaw1.NumBack", spec := "numBack", apart := false }
def NumBackSaid : Prop := numBackRow.holds Try.pinned (OpenSpec.ofChange numBackSpec)

/-- ITS FALSE NEIGHBOUR: 'it returns false'. Refute it at one input. -/
def numBackWrong : ChangeSpec := { name := "numBack", fn := fun _ => fun
  | [d1, d2, d3] => { results := [.lit (.bool false)], args := [d1, d2, d3] }
  | _ => none }
def NumBackWrongFalsely : Prop := numBackRow.holds Try.pinned (OpenSpec.ofChange numBackWrong)

/-- 'plnlaw1.NumParts': WHATEVER THE INPUT: true; the input reads as it did. -/
def numPartsSpec : ChangeSpec := { name := "numParts", fn := fun _ => fun
  | [d1, d2] => { results := [.lit (.bool true)], args := [d1, d2] }
  | _ => none }
def numPartsRow : OpenClaim := { program := "ytnibdgjlbhdmfaa", sum := "8ade14c15f3b470ee6e6353818f66c163fa703b5b8fb1dfdf2df6e52f64ac65e", func := "planish/plnlaw1.NumParts", spec := "numParts", apart := false }
def NumPartsSaid : Prop := numPartsRow.holds Try.pinned (OpenSpec.ofChange numPartsSpec)

/-- ITS FALSE NEIGHBOUR: 'it returns false'. Refute it at one input. -/
def numPartsWrong : ChangeSpec := { name := "numParts", fn := fun _ => fun
  | [d1, d2] => { results := [.lit (.bool false)], args := [d1, d2] }
  | _ => none }
def NumPartsWrongFalsely : Prop := numPartsRow.holds Try.pinned (OpenSpec.ofChange numPartsWrong)

/-- 'plnlaw1.NumBits': WHATEVER THE INPUT: true; the input reads as it did. -/
def numBitsSpec : ChangeSpec := { name := "numBits", fn := fun _ => fun
  | [d1, d2, d3] => { results := [.lit (.bool true)], args := [d1, d2, d3] }
  | _ => none }
def numBitsRow : OpenClaim := { program := "ytnibdgjlbhdmfaa", sum := "8ade14c15f3b470ee6e6353818f66c163fa703b5b8fb1dfdf2df6e52f64ac65e", func := "planish/plnlaw1.NumBits", spec := "numBits", apart := false }
def NumBitsSaid : Prop := numBitsRow.holds Try.pinned (OpenSpec.ofChange numBitsSpec)

/-- ITS FALSE NEIGHBOUR: 'it returns false'. Refute it at one input. -/
def numBitsWrong : ChangeSpec := { name := "numBits", fn := fun _ => fun
  | [d1, d2, d3] => { results := [.lit (.bool false)], args := [d1, d2, d3] }
  | _ => none }
def NumBitsWrongFalsely : Prop := numBitsRow.holds Try.pinned (OpenSpec.ofChange numBitsWrong)

/-- 'plnlaw1.NumMoves': WHATEVER THE INPUT: true; the input reads as it did. -/
def numMovesSpec : ChangeSpec := { name := "numMoves", fn := fun _ => fun
  | [d1, d2] => { results := [.lit (.bool true)], args := [d1, d2] }
  | _ => none }
def numMovesRow : OpenClaim := { program := "ytnibdgjlbhdmfaa", sum := "8ade14c15f3b470ee6e6353818f66c163fa703b5b8fb1dfdf2df6e52f64ac65e", func := "planish/plnlaw1.NumMoves", spec := "numMoves", apart := false }
def NumMovesSaid : Prop := numMovesRow.holds Try.pinned (OpenSpec.ofChange numMovesSpec)

/-- ITS FALSE NEIGHBOUR: 'it returns false'. Refute it at one input. -/
def numMovesWrong : ChangeSpec := { name := "numMoves", fn := fun _ => fun
  | [d1, d2] => { results := [.lit (.bool false)], args := [d1, d2] }
  | _ => none }
def NumMovesWrongFalsely : Prop := numMovesRow.holds Try.pinned (OpenSpec.ofChange numMovesWrong)

/-- 'plnlaw1.NumOrder': WHATEVER THE INPUT: true; the input reads as it did. -/
def numOrderSpec : ChangeSpec := { name := "numOrder", fn := fun _ => fun
  | [d1, d2] => { results := [.lit (.bool true)], args := [d1, d2] }
  | _ => none }
def numOrderRow : OpenClaim := { program := "ytnibdgjlbhdmfaa", sum := "8ade14c15f3b470ee6e6353818f66c163fa703b5b8fb1dfdf2df6e52f64ac65e", func := "planish/plnlaw1.NumOrder", spec := "numOrder", apart := false }
def NumOrderSaid : Prop := numOrderRow.holds Try.pinned (OpenSpec.ofChange numOrderSpec)

/-- ITS FALSE NEIGHBOUR: 'it returns false'. Refute it at one input. -/
def numOrderWrong : ChangeSpec := { name := "numOrder", fn := fun _ => fun
  | [d1, d2] => { results := [.lit (.bool false)], args := [d1, d2] }
  | _ => none }
def NumOrderWrongFalsely : Prop := numOrderRow.holds Try.pinned (OpenSpec.ofChange numOrderWrong)

/-- 'plnlaw2.WireTells': WHATEVER THE INPUT: true; the input reads as it did. -/
def wireTellsSpec : ChangeSpec := { name := "wireTells", fn := fun _ => fun
  | [d1, d2, d3, d4, d5] => { results := [.lit (.bool true)], args := [d1, d2, d3, d4, d5] }
  | _ => none }
def wireTellsRow : OpenClaim := { program := "ytnibdgjlbhdmfaa", sum := "8ade14c15f3b470ee6e6353818f66c163fa703b5b8fb1dfdf2df6e52f64ac65e", func := "planish/plnlaw2.WireTells", spec := "wireTells", apart := false }
def WireTellsSaid : Prop := wireTellsRow.holds Try.pinned (OpenSpec.ofChange wireTellsSpec)

/-- ITS FALSE NEIGHBOUR: 'it returns false'. Refute it at one input. -/
def wireTellsWrong : ChangeSpec := { name := "wireTells", fn := fun _ => fun
  | [d1, d2, d3, d4, d5] => { results := [.lit (.bool false)], args := [d1, d2, d3, d4, d5] }
  | _ => none }
def WireTellsWrongFalsely : Prop := wireTellsRow.holds Try.pinned (OpenSpec.ofChange wireTellsWrong)

/-- 'plnlaw2.WireBack': WHATEVER THE INPUT: true; the input reads as it did. -/
def wireBackSpec : ChangeSpec := { name := "wireBack", fn := fun _ => fun
  | [d1, d2, d3, d4] => { results := [.lit (.bool true)], args := [d1, d2, d3, d4] }
  | _ => none }
def wireBackRow : OpenClaim := { program := "ytnibdgjlbhdmfaa", sum := "8ade14c15f3b470ee6e6353818f66c163fa703b5b8fb1dfdf2df6e52f64ac65e", func := "planish/plnlaw2.WireBack", spec := "wireBack", apart := false }
def WireBackSaid : Prop := wireBackRow.holds Try.pinned (OpenSpec.ofChange wireBackSpec)

/-- ITS FALSE NEIGHBOUR: 'it returns false'. Refute it at one input. -/
def wireBackWrong : ChangeSpec := { name := "wireBack", fn := fun _ => fun
  | [d1, d2, d3, d4] => { results := [.lit (.bool false)], args := [d1, d2, d3, d4] }
  | _ => none }
def WireBackWrongFalsely : Prop := wireBackRow.holds Try.pinned (OpenSpec.ofChange wireBackWrong)

/-- 'plnlaw2.WireCut': WHATEVER THE INPUT: true; the input reads as it did. -/
def wireCutSpec : ChangeSpec := { name := "wireCut", fn := fun _ => fun
  | [d1, d2, d3] => { results := [.lit (.bool true)], args := [d1, d2, d3] }
  | _ => none }
def wireCutRow : OpenClaim := { program := "ytnibdgjlbhdmfaa", sum := "8ade14c15f3b470ee6e6353818f66c163fa703b5b8fb1dfdf2df6e52f64ac65e", func := "planish/plnlaw2.WireCut", spec := "wireCut", apart := false }
def WireCutSaid : Prop := wireCutRow.holds Try.pinned (OpenSpec.ofChange wireCutSpec)

/-- ITS FALSE NEIGHBOUR: 'it returns false'. Refute it at one input. -/
def wireCutWrong : ChangeSpec := { name := "wireCut", fn := fun _ => fun
  | [d1, d2, d3] => { results := [.lit (.bool false)], args := [d1, d2, d3] }
  | _ => none }
def WireCutWrongFalsely : Prop := wireCutRow.holds Try.pinned (OpenSpec.ofChange wireCutWrong)

/- THE SECOND FORM. 'bulk': how many values and letters a reading holds, each counted each time it is reached (what is shared counts as often as it is met; a slice's spare places count too). A statement '..UptoSaid' is the law's where the arguments, and the package variables that the reading takes, are together of bulk at most 1048576: NARROWER than '..Said'. Prove '..Said' where nothing that the law and all that it calls make is longer than what came in: it says more and counts as full. Else prove '..UptoSaid'. A law counts once. -/
mutual
def uptoBulk {H : Type} : DataW H → Nat
  | .lit (.string bytes) => bytes.length + 1
  | .lit _ => 1
  | .nil => 1
  | .ptr d => uptoBulk d + 1
  | .slice elems spare => uptoBulkAll elems + uptoBulkAll spare + 1
  | .agg parts => uptoBulkAll parts + 1
  | .iface _ d => uptoBulk d + 1
  | .map entries => uptoBulkEntries entries + 1
  | .held _ => 1
def uptoBulkAll {H : Type} : List (DataW H) → Nat
  | [] => 0
  | d :: r => uptoBulk d + uptoBulkAll r
def uptoBulkEntries {H : Type} : List (Lit × DataW H) → Nat
  | [] => 0
  | x :: r => uptoBulkEntry x + uptoBulkEntries r
def uptoBulkEntry {H : Type} : Lit × DataW H → Nat
  | (.string bytes, d) => bytes.length + uptoBulk d + 1
  | (_, d) => uptoBulk d + 1
 end
def uptoSmall : (H : Type) → List (DataW H) → Bool := fun _ ds => decide (uptoBulkAll ds ≤ 1048576)
def OpenSpec.upto (s : _root_.Go.ChangeSpec) : _root_.Go.OpenSpec := { _root_.Go.OpenSpec.ofChange s with cond := some uptoSmall }

/-- 'plnlaw10.MemPlays', WHERE WHAT IT READS IS OF BULK AT MOST 1048576: true; the input reads as it did. -/
def memPlaysUptoRow : OpenClaim := { program := "ytnibdgjlbhdmfaa", sum := "8ade14c15f3b470ee6e6353818f66c163fa703b5b8fb1dfdf2df6e52f64ac65e", func := "planish/plnlaw10.MemPlays", spec := "memPlays", apart := false, narrowed := true }
def MemPlaysUptoSaid : Prop := memPlaysUptoRow.holds Try.pinned (OpenSpec.upto memPlaysSpec)

/-- 'plnlaw10.MemLast', WHERE WHAT IT READS IS OF BULK AT MOST 1048576: true; the input reads as it did. -/
def memLastUptoRow : OpenClaim := { program := "ytnibdgjlbhdmfaa", sum := "8ade14c15f3b470ee6e6353818f66c163fa703b5b8fb1dfdf2df6e52f64ac65e", func := "planish/plnlaw10.MemLast", spec := "memLast", apart := false, narrowed := true }
def MemLastUptoSaid : Prop := memLastUptoRow.holds Try.pinned (OpenSpec.upto memLastSpec)

/-- 'plnlaw10.MemCopies', WHERE WHAT IT READS IS OF BULK AT MOST 1048576: true; the input reads as it did. -/
def memCopiesUptoRow : OpenClaim := { program := "ytnibdgjlbhdmfaa", sum := "8ade14c15f3b470ee6e6353818f66c163fa703b5b8fb1dfdf2df6e52f64ac65e", func := "planish/plnlaw10.MemCopies", spec := "memCopies", apart := false, narrowed := true }
def MemCopiesUptoSaid : Prop := memCopiesUptoRow.holds Try.pinned (OpenSpec.upto memCopiesSpec)

/-- 'plnlaw7.LexWhere', WHERE WHAT IT READS IS OF BULK AT MOST 1048576: true; the input reads as it did. -/
def lexWhereUptoRow : OpenClaim := { program := "ytnibdgjlbhdmfaa", sum := "8ade14c15f3b470ee6e6353818f66c163fa703b5b8fb1dfdf2df6e52f64ac65e", func := "planish/plnlaw7.LexWhere", spec := "lexWhere", unfollowed := true, recurses := true, apart := false, narrowed := true }
def LexWhereUptoSaid : Prop := lexWhereUptoRow.holds Try.pinned (OpenSpec.upto lexWhereSpec)

/-- 'plnlaw7.LexJoined', WHERE WHAT IT READS IS OF BULK AT MOST 1048576: true; the input reads as it did. -/
def lexJoinedUptoRow : OpenClaim := { program := "ytnibdgjlbhdmfaa", sum := "8ade14c15f3b470ee6e6353818f66c163fa703b5b8fb1dfdf2df6e52f64ac65e", func := "planish/plnlaw7.LexJoined", spec := "lexJoined", unfollowed := true, recurses := true, apart := false, narrowed := true }
def LexJoinedUptoSaid : Prop := lexJoinedUptoRow.holds Try.pinned (OpenSpec.upto lexJoinedSpec)

/-- 'plnlaw2.WireOne', WHERE WHAT IT READS IS OF BULK AT MOST 1048576: true; the input reads as it did. -/
def wireOneUptoRow : OpenClaim := { program := "ytnibdgjlbhdmfaa", sum := "8ade14c15f3b470ee6e6353818f66c163fa703b5b8fb1dfdf2df6e52f64ac65e", func := "planish/plnlaw2.WireOne", spec := "wireOne", apart := false, narrowed := true }
def WireOneUptoSaid : Prop := wireOneUptoRow.holds Try.pinned (OpenSpec.upto wireOneSpec)

/-- 'plnlaw1.NumTells', WHERE WHAT IT READS IS OF BULK AT MOST 1048576: true; the input reads as it did. -/
def numTellsUptoRow : OpenClaim := { program := "ytnibdgjlbhdmfaa", sum := "8ade14c15f3b470ee6e6353818f66c163fa703b5b8fb1dfdf2df6e52f64ac65e", func := "planish/plnlaw1.NumTells", spec := "numTells", apart := false, narrowed := true }
def NumTellsUptoSaid : Prop := numTellsUptoRow.holds Try.pinned (OpenSpec.upto numTellsSpec)

/-- 'plnlaw1.NumBack', WHERE WHAT IT READS IS OF BULK AT MOST 1048576: true; the input reads as it did. -/
def numBackUptoRow : OpenClaim := { program := "ytnibdgjlbhdmfaa", sum := "8ade14c15f3b470ee6e6353818f66c163fa703b5b8fb1dfdf2df6e52f64ac65e", func := "planish/plnlaw1.NumBack", spec := "numBack", apart := false, narrowed := true }
def NumBackUptoSaid : Prop := numBackUptoRow.holds Try.pinned (OpenSpec.upto numBackSpec)

/-- 'plnlaw1.NumParts', WHERE WHAT IT READS IS OF BULK AT MOST 1048576: true; the input reads as it did. -/
def numPartsUptoRow : OpenClaim := { program := "ytnibdgjlbhdmfaa", sum := "8ade14c15f3b470ee6e6353818f66c163fa703b5b8fb1dfdf2df6e52f64ac65e", func := "planish/plnlaw1.NumParts", spec := "numParts", apart := false, narrowed := true }
def NumPartsUptoSaid : Prop := numPartsUptoRow.holds Try.pinned (OpenSpec.upto numPartsSpec)

/-- 'plnlaw1.NumBits', WHERE WHAT IT READS IS OF BULK AT MOST 1048576: true; the input reads as it did. -/
def numBitsUptoRow : OpenClaim := { program := "ytnibdgjlbhdmfaa", sum := "8ade14c15f3b470ee6e6353818f66c163fa703b5b8fb1dfdf2df6e52f64ac65e", func := "planish/plnlaw1.NumBits", spec := "numBits", apart := false, narrowed := true }
def NumBitsUptoSaid : Prop := numBitsUptoRow.holds Try.pinned (OpenSpec.upto numBitsSpec)

/-- 'plnlaw1.NumMoves', WHERE WHAT IT READS IS OF BULK AT MOST 1048576: true; the input reads as it did. -/
def numMovesUptoRow : OpenClaim := { program := "ytnibdgjlbhdmfaa", sum := "8ade14c15f3b470ee6e6353818f66c163fa703b5b8fb1dfdf2df6e52f64ac65e", func := "planish/plnlaw1.NumMoves", spec := "numMoves", apart := false, narrowed := true }
def NumMovesUptoSaid : Prop := numMovesUptoRow.holds Try.pinned (OpenSpec.upto numMovesSpec)

/-- 'plnlaw1.NumOrder', WHERE WHAT IT READS IS OF BULK AT MOST 1048576: true; the input reads as it did. -/
def numOrderUptoRow : OpenClaim := { program := "ytnibdgjlbhdmfaa", sum := "8ade14c15f3b470ee6e6353818f66c163fa703b5b8fb1dfdf2df6e52f64ac65e", func := "planish/plnlaw1.NumOrder", spec := "numOrder", apart := false, narrowed := true }
def NumOrderUptoSaid : Prop := numOrderUptoRow.holds Try.pinned (OpenSpec.upto numOrderSpec)

/-- 'plnlaw2.WireTells', WHERE WHAT IT READS IS OF BULK AT MOST 1048576: true; the input reads as it did. -/
def wireTellsUptoRow : OpenClaim := { program := "ytnibdgjlbhdmfaa", sum := "8ade14c15f3b470ee6e6353818f66c163fa703b5b8fb1dfdf2df6e52f64ac65e", func := "planish/plnlaw2.WireTells", spec := "wireTells", apart := false, narrowed := true }
def WireTellsUptoSaid : Prop := wireTellsUptoRow.holds Try.pinned (OpenSpec.upto wireTellsSpec)

/-- 'plnlaw2.WireBack', WHERE WHAT IT READS IS OF BULK AT MOST 1048576: true; the input reads as it did. -/
def wireBackUptoRow : OpenClaim := { program := "ytnibdgjlbhdmfaa", sum := "8ade14c15f3b470ee6e6353818f66c163fa703b5b8fb1dfdf2df6e52f64ac65e", func := "planish/plnlaw2.WireBack", spec := "wireBack", apart := false, narrowed := true }
def WireBackUptoSaid : Prop := wireBackUptoRow.holds Try.pinned (OpenSpec.upto wireBackSpec)

/-- 'plnlaw2.WireCut', WHERE WHAT IT READS IS OF BULK AT MOST 1048576: true; the input reads as it did. -/
def wireCutUptoRow : OpenClaim := { program := "ytnibdgjlbhdmfaa", sum := "8ade14c15f3b470ee6e6353818f66c163fa703b5b8fb1dfdf2df6e52f64ac65e", func := "planish/plnlaw2.WireCut", spec := "wireCut", apart := false, narrowed := true }
def WireCutUptoSaid : Prop := wireCutUptoRow.holds Try.pinned (OpenSpec.upto wireCutSpec)

end Rows
end Go.Proofs.Ytnibdgjlbhdmfaa
