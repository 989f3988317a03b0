-- Written by this session's own program (hook.py, over the kit's printer); proofs by hand where that has none.
import Derived.Test.YtofgnnmlhnpcoaaProg
import Derived.Below
import Derived.Deep.Draws
import Derived.Deep.AppendLies
import Derived.Maps.AppendAt
import Derived.OwnWalk
import Derived.Laws.BytesArg
import Derived.Laws.MakeOwn
import Derived.Laws.OwnMore
import Derived.Deep.OwnRows
import Derived.Tactics
import Derived.Lib.ConvBytes
import Derived.Laws.Slices
import Derived.WalkKit
import Derived.KernelRfl
import Derived.RowKit3
import Derived.Deep.LoopGhost
import Derived.Deep.QuietTactic
import Derived.BigQuiet
import Derived.WideLaws
import Derived.Deep.DeepCutAuto
import Derived.Deep.CutBlock
import Derived.Deep.RegionHeld3
import Derived.Laws.Rows
import Derived.Lib.AppendStr
import Derived.ArgAppend
import Derived.Laws.IdiomCopy
import Derived.OrdersHeld
import Derived.Laws.BitsLemmas
import Derived.RowKit
import Derived.ScopeJumps
import Derived.WalkMore
import Derived.Test.YtofgnnmlhnpcoaaWWords
import Derived.Test.YtofgnnmlhnpcoaaWLast
import Derived.Test.YtofgnnmlhnpcoaaWTab
import Derived.Test.YtofgnnmlhnpcoaaWFour
import Derived.Test.YtofgnnmlhnpcoaaWQPut
import Derived.Test.YtofgnnmlhnpcoaaWApart
import Derived.Test.YtofgnnmlhnpcoaaWArr
import Derived.Test.YtofgnnmlhnpcoaaWZeros
import Derived.Test.YtofgnnmlhnpcoaaWFoot
import Derived.Test.YtofgnnmlhnpcoaaWKept
import Derived.Test.YtofgnnmlhnpcoaaWShare
import Derived.Test.YtofgnnmlhnpcoaaWN
import Derived.Test.YtofgnnmlhnpcoaaWFootNe
import Derived.Test.YtofgnnmlhnpcoaaWAt
import Derived.Test.YtofgnnmlhnpcoaaWEqStruct
import Derived.Test.YtofgnnmlhnpcoaaWRepsOne
import Derived.Test.YtofgnnmlhnpcoaaWInv
import Derived.Test.YtofgnnmlhnpcoaaWInvWords
import Derived.Test.YtofgnnmlhnpcoaaWGuard
import Derived.Test.YtofgnnmlhnpcoaaWNEv
import Derived.Test.YtofgnnmlhnpcoaaWMore
namespace Go.Proofs.Ytofgnnmlhnpcoaa.Hp
open Go.RowKit Go.Proofs.YtofgnnmlhnpcoaaW.PrintWords Go.Proofs.YtofgnnmlhnpcoaaW.PrintLast Go.Proofs.YtofgnnmlhnpcoaaW.PrintMore
attribute [local go_sem] max2_int min2_int max_two min_two max_three min_three max_four min_four   -- for this text's walks alone
set_option linter.unusedVariables false
set_option linter.unusedSimpArgs false



def errW : Option Int → Value
  | none => .nilIface
  | some c => .iface 0 (.int .i64 c)
theorem errW_none : errW none = .nilIface := rfl
theorem errW_some (c : Int) : errW (some c) = .iface 0 (.int .i64 c) := rfl

theorem info3 : (Try.prog.info? 3).map (fun i => (i.zero, i.size, i.bytes)) = some (some (.int .i64 0), 1, 8) := by kernel_rfl
theorem info5 : (Try.prog.info? 5).map (fun i => (i.zero, i.size, i.bytes)) = some (some (.int .u8 0), 1, 1) := by kernel_rfl
-- the values' own types

end Go.Proofs.Ytofgnnmlhnpcoaa.Hp
