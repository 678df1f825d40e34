/- Printed by the session's own program out of the translation: for each Go function a Lean function with the same answers, and the proof that the code comes to them. No conditions. -/
import Derived.Test.YtfgaggocifmnoaaProg
import Derived.Below
import Derived.Deep.Draws
import Derived.Deep.AppendLies
import Derived.Maps.AppendAt
import Derived.OwnWalk
import Derived.Laws.BytesArg
import Derived.Laws.MakeOwn
import Derived.Laws.OwnMore
import Derived.Deep.OwnRows
import Derived.Tactics
import Derived.Lib.ConvBytes
import Derived.Laws.Slices
import Derived.WalkKit
import Derived.KernelRfl
import Derived.RowKit3
import Derived.Deep.LoopGhost
import Derived.Deep.QuietTactic
import Derived.BigQuiet
import Derived.WideLaws
import Derived.Deep.DeepCutAuto
import Derived.Deep.CutBlock
import Derived.Deep.RegionHeld3
import Derived.Laws.Rows
import Derived.Lib.AppendStr
import Derived.ArgAppend
import Derived.Laws.IdiomCopy
import Derived.OrdersHeld
import Derived.Laws.BitsLemmas
import Derived.RowKit
import Derived.WalkMore
import Derived.ScopeJumps
import Derived.Test.YtfgaggocifmnoaaLab
import Derived.Test.YtfgaggocifmnoaaWWords
import Derived.Test.YtfgaggocifmnoaaWLast
import Derived.Test.YtfgaggocifmnoaaWTab
import Derived.Test.YtfgaggocifmnoaaWFour
import Derived.Test.YtfgaggocifmnoaaWQPut
import Derived.Test.YtfgaggocifmnoaaWApart
import Derived.Test.YtfgaggocifmnoaaWArr
import Derived.Test.YtfgaggocifmnoaaWZeros
import Derived.Test.YtfgaggocifmnoaaWFoot
import Derived.Test.YtfgaggocifmnoaaWKept
import Derived.Test.YtfgaggocifmnoaaWShare
import Derived.Test.YtfgaggocifmnoaaWN
import Derived.Test.YtfgaggocifmnoaaWFootNe
import Derived.Test.YtfgaggocifmnoaaWAt
import Derived.Test.YtfgaggocifmnoaaWEqStruct
import Derived.Test.YtfgaggocifmnoaaWRepsOne
import Derived.Test.YtfgaggocifmnoaaWInv
import Derived.Test.YtfgaggocifmnoaaWInvWords
import Derived.Test.YtfgaggocifmnoaaWGuard
import Derived.Test.YtfgaggocifmnoaaWNEv
import Derived.Test.YtfgaggocifmnoaaWMore
namespace Go.Proofs.Ytfgaggocifmnoaa.L
open Go.Proofs.YtfgaggocifmnoaaLab
open Go.RowKit Go.Proofs.YtfgaggocifmnoaaW.PrintWords Go.Proofs.YtfgaggocifmnoaaW.PrintLast Go.Proofs.YtfgaggocifmnoaaW.PrintMore
attribute [local go_sem] max2_int min2_int max_two min_two max_three min_three max_four min_four   -- for this text's walks alone
set_option linter.unusedVariables false
set_option linter.unusedSimpArgs false



def errW : Option Int → Value
  | none => .nilIface
  | some c => .iface 0 (.int .i64 c)
theorem errW_none : errW none = .nilIface := rfl
theorem errW_some (c : Int) : errW (some c) = .iface 0 (.int .i64 c) := rfl

theorem info3 : (Try.prog.info? 3).map (fun i => (i.zero, i.size, i.bytes)) = some (some (.int .i64 0), 1, 8) := by kernel_rfl
-- the values' own types

end Go.Proofs.Ytfgaggocifmnoaa.L
