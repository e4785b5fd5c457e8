/- The head of the functions' texts (sections of the kit's own print, laid by wip/tools/split.py into one namespace for all laws). -/
import Derived.Test.YtjpiplplohapnaaGreatDoorProg
import Derived.Below
import Derived.Deep.Draws
import Derived.Deep.AppendLies
import Derived.Maps.AppendAt
import Derived.OwnWalk
import Derived.Laws.BytesArg
import Derived.Laws.MakeOwn
import Derived.Laws.OwnMore
import Derived.Deep.OwnRows
import Derived.Tactics
import Derived.Lib.ConvBytes
import Derived.Laws.Slices
import Derived.WalkKit
import Derived.KernelRfl
import Derived.RowKit3
import Derived.Deep.LoopGhost
import Derived.Deep.QuietTactic
import Derived.BigQuiet
import Derived.WideLaws
import Derived.Deep.DeepCutAuto
import Derived.Deep.CutBlock
import Derived.Deep.RegionHeld3
import Derived.Laws.Rows
import Derived.Lib.AppendStr
import Derived.ArgAppend
import Derived.Laws.IdiomCopy
import Derived.OrdersHeld
import Derived.Laws.BitsLemmas
import Derived.RowKit
import Derived.Test.YtjpiplplohapnaaGreatDoorWWords
import Derived.Test.YtjpiplplohapnaaGreatDoorWLast
import Derived.Test.YtjpiplplohapnaaGreatDoorWTab
import Derived.Test.YtjpiplplohapnaaGreatDoorWFour
import Derived.Test.YtjpiplplohapnaaGreatDoorWQPut
import Derived.Test.YtjpiplplohapnaaGreatDoorWApart
import Derived.Test.YtjpiplplohapnaaGreatDoorWArr
import Derived.Test.YtjpiplplohapnaaGreatDoorWZeros
import Derived.Test.YtjpiplplohapnaaGreatDoorWFoot
import Derived.Test.YtjpiplplohapnaaGreatDoorWKept
import Derived.Test.YtjpiplplohapnaaGreatDoorWShare
import Derived.Test.YtjpiplplohapnaaGreatDoorWN
import Derived.Test.YtjpiplplohapnaaGreatDoorWFootNe
import Derived.Test.YtjpiplplohapnaaGreatDoorWAt
import Derived.Test.YtjpiplplohapnaaGreatDoorWEqStruct
import Derived.Test.YtjpiplplohapnaaGreatDoorWRepsOne
import Derived.Test.YtjpiplplohapnaaGreatDoorWInv
import Derived.Test.YtjpiplplohapnaaGreatDoorWInvWords
import Derived.Test.YtjpiplplohapnaaGreatDoorWGuard
import Derived.Test.YtjpiplplohapnaaGreatDoorWNEv
import Derived.Test.YtjpiplplohapnaaGreatDoorWMore
namespace Go.Proofs.YtjpiplplohapnaaGreatDoor.PText
open Go.RowKit Go.Proofs.YtjpiplplohapnaaGreatDoorW.PrintWords Go.Proofs.YtjpiplplohapnaaGreatDoorW.PrintLast Go.Proofs.YtjpiplplohapnaaGreatDoorW.PrintMore
attribute [local go_sem] max2_int min2_int max_two min_two max_three min_three max_four min_four   -- for this text's walks alone
set_option linter.unusedVariables false
set_option linter.unusedSimpArgs false



def errW : Option Int → Value
  | none => .nilIface
  | some c => .iface 113 (.int .i64 c)
theorem errW_none : errW none = .nilIface := rfl
theorem errW_some (c : Int) : errW (some c) = .iface 113 (.int .i64 c) := rfl

theorem info5 : (Tryz.prog.info? 5).map (fun i => (i.zero, i.size, i.bytes)) = some (some (.int .u8 0), 1, 1) := by kernel_rfl
theorem info26 : (Tryz.prog.info? 26).map (fun i => (i.zero, i.size, i.bytes)) = some (some (.int .u64 0), 1, 8) := by kernel_rfl
-- the values' own types

end Go.Proofs.YtjpiplplohapnaaGreatDoor.PText
