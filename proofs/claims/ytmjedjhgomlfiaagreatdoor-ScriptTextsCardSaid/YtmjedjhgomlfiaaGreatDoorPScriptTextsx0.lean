-- Printed by print.sh; the parts that this claim does not use are left out.
import Derived.Test.YtmjedjhgomlfiaaGreatDoorProg
import Derived.Below
import Derived.Deep.Draws
import Derived.Deep.AppendLies
import Derived.Maps.AppendAt
import Derived.OwnWalk
import Derived.Laws.BytesArg
import Derived.Laws.MakeOwn
import Derived.Laws.OwnMore
import Derived.Deep.OwnRows
import Derived.Tactics
import Derived.Lib.ConvBytes
import Derived.Laws.Slices
import Derived.WalkKit
import Derived.KernelRfl
import Derived.RowKit3
import Derived.Deep.LoopGhost
import Derived.Deep.QuietTactic
import Derived.BigQuiet
import Derived.WideLaws
import Derived.Deep.DeepCutAuto
import Derived.Deep.CutBlock
import Derived.Deep.RegionHeld3
import Derived.Laws.Rows
import Derived.Lib.AppendStr
import Derived.ArgAppend
import Derived.Laws.IdiomCopy
import Derived.OrdersHeld
import Derived.Laws.BitsLemmas
import Derived.RowKit
import Derived.Test.YtmjedjhgomlfiaaGreatDoorWWords
import Derived.Test.YtmjedjhgomlfiaaGreatDoorWLast
import Derived.Test.YtmjedjhgomlfiaaGreatDoorWTab
import Derived.Test.YtmjedjhgomlfiaaGreatDoorWFour
import Derived.Test.YtmjedjhgomlfiaaGreatDoorWQPut
import Derived.Test.YtmjedjhgomlfiaaGreatDoorWApart
import Derived.Test.YtmjedjhgomlfiaaGreatDoorWArr
import Derived.Test.YtmjedjhgomlfiaaGreatDoorWZeros
import Derived.Test.YtmjedjhgomlfiaaGreatDoorWFoot
import Derived.Test.YtmjedjhgomlfiaaGreatDoorWKept
import Derived.Test.YtmjedjhgomlfiaaGreatDoorWShare
import Derived.Test.YtmjedjhgomlfiaaGreatDoorWN
import Derived.Test.YtmjedjhgomlfiaaGreatDoorWFootNe
import Derived.Test.YtmjedjhgomlfiaaGreatDoorWAt
import Derived.Test.YtmjedjhgomlfiaaGreatDoorWEqStruct
import Derived.Test.YtmjedjhgomlfiaaGreatDoorWRepsOne
import Derived.Test.YtmjedjhgomlfiaaGreatDoorWInv
import Derived.Test.YtmjedjhgomlfiaaGreatDoorWInvWords
import Derived.Test.YtmjedjhgomlfiaaGreatDoorWGuard
import Derived.Test.YtmjedjhgomlfiaaGreatDoorWNEv
import Derived.Test.YtmjedjhgomlfiaaGreatDoorWMore
namespace Go.Proofs.YtmjedjhgomlfiaaGreatDoor.PScriptTexts
open Go.RowKit Go.Proofs.YtmjedjhgomlfiaaGreatDoorW.PrintWords Go.Proofs.YtmjedjhgomlfiaaGreatDoorW.PrintLast Go.Proofs.YtmjedjhgomlfiaaGreatDoorW.PrintMore
attribute [local go_sem] max2_int min2_int max_two min_two max_three min_three max_four min_four   -- for this text's walks alone
set_option linter.unusedVariables false
set_option linter.unusedSimpArgs false



def errW : Option Int → Value
  | none => .nilIface
  | some c => .iface 120 (.int .i64 c)
theorem errW_none : errW none = .nilIface := rfl
theorem errW_some (c : Int) : errW (some c) = .iface 120 (.int .i64 c) := rfl

theorem info9 : (Tryz.prog.info? 9).map (fun i => (i.zero, i.size, i.bytes)) = some (some (.string ⟨#[]⟩), 1, 16) := by kernel_rfl
-- the values' own types
/-! #### struct type 38 -/
structure S38 where
  f0 : Int
  f1 : Int
  f2 : Int
  f3 : Int
  f4 : Int
  f5 : ByteArray
end Go.Proofs.YtmjedjhgomlfiaaGreatDoor.PScriptTexts
