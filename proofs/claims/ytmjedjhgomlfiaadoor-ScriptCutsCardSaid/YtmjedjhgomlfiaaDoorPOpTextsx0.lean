-- Printed by print.sh; the parts that this claim does not use are left out.
import Derived.Test.YtmjedjhgomlfiaaDoorProg
import Derived.Below
import Derived.Deep.Draws
import Derived.Deep.AppendLies
import Derived.Maps.AppendAt
import Derived.OwnWalk
import Derived.Laws.BytesArg
import Derived.Laws.MakeOwn
import Derived.Laws.OwnMore
import Derived.Deep.OwnRows
import Derived.Tactics
import Derived.Lib.ConvBytes
import Derived.Laws.Slices
import Derived.WalkKit
import Derived.KernelRfl
import Derived.RowKit3
import Derived.Deep.LoopGhost
import Derived.Deep.QuietTactic
import Derived.BigQuiet
import Derived.WideLaws
import Derived.Deep.DeepCutAuto
import Derived.Deep.CutBlock
import Derived.Deep.RegionHeld3
import Derived.Laws.Rows
import Derived.Lib.AppendStr
import Derived.ArgAppend
import Derived.Laws.IdiomCopy
import Derived.OrdersHeld
import Derived.Laws.BitsLemmas
import Derived.RowKit
import Derived.Test.YtmjedjhgomlfiaaDoorWWords
import Derived.Test.YtmjedjhgomlfiaaDoorWLast
import Derived.Test.YtmjedjhgomlfiaaDoorWTab
import Derived.Test.YtmjedjhgomlfiaaDoorWFour
import Derived.Test.YtmjedjhgomlfiaaDoorWQPut
import Derived.Test.YtmjedjhgomlfiaaDoorWApart
import Derived.Test.YtmjedjhgomlfiaaDoorWArr
import Derived.Test.YtmjedjhgomlfiaaDoorWZeros
import Derived.Test.YtmjedjhgomlfiaaDoorWFoot
import Derived.Test.YtmjedjhgomlfiaaDoorWKept
import Derived.Test.YtmjedjhgomlfiaaDoorWShare
import Derived.Test.YtmjedjhgomlfiaaDoorWN
import Derived.Test.YtmjedjhgomlfiaaDoorWFootNe
import Derived.Test.YtmjedjhgomlfiaaDoorWAt
import Derived.Test.YtmjedjhgomlfiaaDoorWEqStruct
import Derived.Test.YtmjedjhgomlfiaaDoorWRepsOne
import Derived.Test.YtmjedjhgomlfiaaDoorWInv
import Derived.Test.YtmjedjhgomlfiaaDoorWInvWords
import Derived.Test.YtmjedjhgomlfiaaDoorWGuard
import Derived.Test.YtmjedjhgomlfiaaDoorWNEv
import Derived.Test.YtmjedjhgomlfiaaDoorWMore
namespace Go.Proofs.YtmjedjhgomlfiaaDoor.POpTexts
open Go.RowKit Go.Proofs.YtmjedjhgomlfiaaDoorW.PrintWords Go.Proofs.YtmjedjhgomlfiaaDoorW.PrintLast Go.Proofs.YtmjedjhgomlfiaaDoorW.PrintMore
attribute [local go_sem] max2_int min2_int max_two min_two max_three min_three max_four min_four   -- for this text's walks alone
set_option linter.unusedVariables false
set_option linter.unusedSimpArgs false



def errW : Option Int → Value
  | none => .nilIface
  | some c => .iface 124 (.int .i64 c)
theorem errW_none : errW none = .nilIface := rfl
theorem errW_some (c : Int) : errW (some c) = .iface 124 (.int .i64 c) := rfl

theorem info9 : (Tryd.prog.info? 9).map (fun i => (i.zero, i.size, i.bytes)) = some (some (.string ⟨#[]⟩), 1, 16) := by kernel_rfl
-- the values' own types

end Go.Proofs.YtmjedjhgomlfiaaDoor.POpTexts
