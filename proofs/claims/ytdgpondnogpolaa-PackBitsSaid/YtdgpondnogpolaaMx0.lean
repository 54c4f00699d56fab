/- Printed for this seat by a program of this session (over the kit's print), with contracts of its own laid in. -/
import Derived.Test.YtdgpondnogpolaaProg
import Derived.Below
import Derived.Deep.Draws
import Derived.Deep.AppendLies
import Derived.Maps.AppendAt
import Derived.OwnWalk
import Derived.Laws.BytesArg
import Derived.Laws.MakeOwn
import Derived.Laws.OwnMore
import Derived.Deep.OwnRows
import Derived.Tactics
import Derived.Lib.ConvBytes
import Derived.Laws.Slices
import Derived.WalkKit
import Derived.KernelRfl
import Derived.RowKit3
import Derived.Deep.LoopGhost
import Derived.Deep.QuietTactic
import Derived.BigQuiet
import Derived.WideLaws
import Derived.Deep.DeepCutAuto
import Derived.Deep.CutBlock
import Derived.Deep.RegionHeld3
import Derived.Laws.Rows
import Derived.Lib.AppendStr
import Derived.ArgAppend
import Derived.Laws.IdiomCopy
import Derived.OrdersHeld
import Derived.Laws.BitsLemmas
import Derived.RowKit
import Derived.Test.YtdgpondnogpolaaWWords
import Derived.Test.YtdgpondnogpolaaWLast
import Derived.Test.YtdgpondnogpolaaWTab
import Derived.Test.YtdgpondnogpolaaWFour
import Derived.Test.YtdgpondnogpolaaWQPut
import Derived.Test.YtdgpondnogpolaaWApart
import Derived.Test.YtdgpondnogpolaaWArr
import Derived.Test.YtdgpondnogpolaaWZeros
import Derived.Test.YtdgpondnogpolaaWFoot
import Derived.Test.YtdgpondnogpolaaWKept
import Derived.Test.YtdgpondnogpolaaWShare
import Derived.Test.YtdgpondnogpolaaWN
import Derived.Test.YtdgpondnogpolaaWFootNe
import Derived.Test.YtdgpondnogpolaaWAt
import Derived.Test.YtdgpondnogpolaaWEqStruct
import Derived.Test.YtdgpondnogpolaaWRepsOne
import Derived.Test.YtdgpondnogpolaaWInv
import Derived.Test.YtdgpondnogpolaaWInvWords
import Derived.Test.YtdgpondnogpolaaWGuard
import Derived.Test.YtdgpondnogpolaaWNEv
import Derived.Test.YtdgpondnogpolaaWMore
namespace Go.Proofs.Ytdgpondnogpolaa.M
open Go.RowKit Go.Proofs.YtdgpondnogpolaaW.PrintWords Go.Proofs.YtdgpondnogpolaaW.PrintLast Go.Proofs.YtdgpondnogpolaaW.PrintMore
attribute [local go_sem] max2_int min2_int max_two min_two max_three min_three max_four min_four   -- for this text's walks alone
set_option linter.unusedVariables false
set_option linter.unusedSimpArgs false



def errW : Option Int → Value
  | none => .nilIface
  | some c => .iface 0 (.int .i64 c)
theorem errW_none : errW none = .nilIface := rfl
theorem errW_some (c : Int) : errW (some c) = .iface 0 (.int .i64 c) := rfl

theorem info5 : (Try.prog.info? 5).map (fun i => (i.zero, i.size, i.bytes)) = some (some (.int .u8 0), 1, 1) := by kernel_rfl
theorem info34 : (Try.prog.info? 34).map (fun i => (i.zero, i.size, i.bytes)) = some (some (.int .u16 0), 1, 2) := by kernel_rfl
-- the values' own types

end Go.Proofs.Ytdgpondnogpolaa.M
