-- Printed by print.sh; the parts that this claim does not use are left out.
import Derived.Test.YtmjedjhgomlfiaaGreatDoorWInv
import Derived.Test.YtmjedjhgomlfiaaGreatDoorWFootNe
namespace Go.Proofs.YtmjedjhgomlfiaaGreatDoorW.PrintWords
open Go.RowKit
end Go.Proofs.YtmjedjhgomlfiaaGreatDoorW.PrintWords
namespace Go.Proofs.YtmjedjhgomlfiaaGreatDoorW.PrintLast
section
variable {ops : Array Oper} {a : Act} {o og : Oper} {g : Nat} {t : Tmp} {u : Bool}
end
end Go.Proofs.YtmjedjhgomlfiaaGreatDoorW.PrintLast
