import Derived.Test.YtnibdgjlbhdmfaaProg
import Derived.Below
import Derived.Deep.Draws
import Derived.Deep.AppendLies
import Derived.Maps.AppendAt
import Derived.OwnWalk
import Derived.Laws.BytesArg
import Derived.Laws.MakeOwn
import Derived.Laws.OwnMore
import Derived.Deep.OwnRows
import Derived.Tactics
import Derived.Lib.ConvBytes
import Derived.Laws.Slices
import Derived.WalkKit
import Derived.KernelRfl
import Derived.RowKit3
import Derived.Deep.LoopGhost
import Derived.Deep.QuietTactic
import Derived.BigQuiet
import Derived.WideLaws
import Derived.Deep.DeepCutAuto
import Derived.Deep.CutBlock
import Derived.Deep.RegionHeld3
import Derived.Laws.Rows
import Derived.Lib.AppendStr
import Derived.ArgAppend
import Derived.Laws.IdiomCopy
import Derived.OrdersHeld
import Derived.Laws.BitsLemmas
import Derived.RowKit
import Derived.Test.YtnibdgjlbhdmfaaWWords
import Derived.Test.YtnibdgjlbhdmfaaWLast
import Derived.Test.YtnibdgjlbhdmfaaWTab
import Derived.Test.YtnibdgjlbhdmfaaWFour
import Derived.Test.YtnibdgjlbhdmfaaWQPut
import Derived.Test.YtnibdgjlbhdmfaaWApart
import Derived.Test.YtnibdgjlbhdmfaaWArr
import Derived.Test.YtnibdgjlbhdmfaaWZeros
import Derived.Test.YtnibdgjlbhdmfaaWFoot
import Derived.Test.YtnibdgjlbhdmfaaWKept
import Derived.Test.YtnibdgjlbhdmfaaWShare
import Derived.Test.YtnibdgjlbhdmfaaWN
import Derived.Test.YtnibdgjlbhdmfaaWFootNe
import Derived.Test.YtnibdgjlbhdmfaaWAt
import Derived.Test.YtnibdgjlbhdmfaaWEqStruct
import Derived.Test.YtnibdgjlbhdmfaaWRepsOne
import Derived.Test.YtnibdgjlbhdmfaaWInv
import Derived.Test.YtnibdgjlbhdmfaaWInvWords
import Derived.Test.YtnibdgjlbhdmfaaWGuard
import Derived.Test.YtnibdgjlbhdmfaaWNEv
import Derived.Test.YtnibdgjlbhdmfaaWMore
namespace Go.Proofs.Ytnibdgjlbhdmfaa.MWireTells
open Go.RowKit Go.Proofs.YtnibdgjlbhdmfaaW.PrintWords Go.Proofs.YtnibdgjlbhdmfaaW.PrintLast Go.Proofs.YtnibdgjlbhdmfaaW.PrintMore
attribute [local go_sem] max2_int min2_int max_two min_two max_three min_three max_four min_four   -- for this text's walks alone
set_option linter.unusedVariables false
set_option linter.unusedSimpArgs false



def errW : Option Int → Value
  | none => .nilIface
  | some c => .iface 0 (.int .i64 c)
theorem errW_none : errW none = .nilIface := rfl
theorem errW_some (c : Int) : errW (some c) = .iface 0 (.int .i64 c) := rfl

theorem info5 : (Try.prog.info? 5).map (fun i => (i.zero, i.size, i.bytes)) = some (some (.int .u8 0), 1, 1) := by kernel_rfl
-- the values' own types

end Go.Proofs.Ytnibdgjlbhdmfaa.MWireTells
