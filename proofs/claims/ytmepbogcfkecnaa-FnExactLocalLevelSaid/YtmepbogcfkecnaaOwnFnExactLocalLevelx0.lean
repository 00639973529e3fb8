/- Steps of the functions that FnExactLocalLevel reaches, written by a program of this workplace for this claim: each comes to the answers of the plain function beside it. -/
import Derived.Test.YtmepbogcfkecnaaProg
import Derived.Below
import Derived.Deep.Draws
import Derived.Deep.AppendLies
import Derived.Maps.AppendAt
import Derived.OwnWalk
import Derived.Laws.BytesArg
import Derived.Laws.MakeOwn
import Derived.Laws.OwnMore
import Derived.Deep.OwnRows
import Derived.Tactics
import Derived.Lib.ConvBytes
import Derived.Laws.Slices
import Derived.WalkKit
import Derived.KernelRfl
import Derived.RowKit3
import Derived.Deep.LoopGhost
import Derived.Deep.QuietTactic
import Derived.BigQuiet
import Derived.WideLaws
import Derived.Deep.DeepCutAuto
import Derived.Deep.CutBlock
import Derived.Deep.RegionHeld3
import Derived.Laws.Rows
import Derived.Lib.AppendStr
import Derived.ArgAppend
import Derived.Laws.IdiomCopy
import Derived.OrdersHeld
import Derived.Laws.BitsLemmas
import Derived.RowKit
import Derived.Test.YtmepbogcfkecnaaWWords
import Derived.Test.YtmepbogcfkecnaaWLast
import Derived.Test.YtmepbogcfkecnaaWTab
import Derived.Test.YtmepbogcfkecnaaWFour
import Derived.Test.YtmepbogcfkecnaaWQPut
import Derived.Test.YtmepbogcfkecnaaWApart
import Derived.Test.YtmepbogcfkecnaaWArr
import Derived.Test.YtmepbogcfkecnaaWZeros
import Derived.Test.YtmepbogcfkecnaaWFoot
import Derived.Test.YtmepbogcfkecnaaWKept
import Derived.Test.YtmepbogcfkecnaaWShare
import Derived.Test.YtmepbogcfkecnaaWN
import Derived.Test.YtmepbogcfkecnaaWFootNe
import Derived.Test.YtmepbogcfkecnaaWAt
import Derived.Test.YtmepbogcfkecnaaWEqStruct
import Derived.Test.YtmepbogcfkecnaaWRepsOne
import Derived.Test.YtmepbogcfkecnaaWInv
import Derived.Test.YtmepbogcfkecnaaWInvWords
import Derived.Test.YtmepbogcfkecnaaWGuard
import Derived.Test.YtmepbogcfkecnaaWNEv
import Derived.Test.YtmepbogcfkecnaaWMore
namespace Go.Proofs.Ytmepbogcfkecnaa.PFnExactLocalLevel
open Go.RowKit Go.Proofs.YtmepbogcfkecnaaW.PrintWords Go.Proofs.YtmepbogcfkecnaaW.PrintLast Go.Proofs.YtmepbogcfkecnaaW.PrintMore
attribute [local go_sem] max2_int min2_int max_two min_two max_three min_three max_four min_four   -- for this text's walks alone
set_option linter.unusedVariables false
set_option linter.unusedSimpArgs false



def errW : Option Int → Value
  | none => .nilIface
  | some c => .iface 0 (.int .i64 c)
theorem errW_none : errW none = .nilIface := rfl
theorem errW_some (c : Int) : errW (some c) = .iface 0 (.int .i64 c) := rfl

theorem info4 : (Try.prog.info? 4).map (fun i => (i.zero, i.size, i.bytes)) = some (some (.bool false), 1, 1) := by kernel_rfl
-- the values' own types

end Go.Proofs.Ytmepbogcfkecnaa.PFnExactLocalLevel
