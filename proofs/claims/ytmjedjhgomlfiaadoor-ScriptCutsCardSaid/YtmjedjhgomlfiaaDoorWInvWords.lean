-- Printed by print.sh; the parts that this claim does not use are left out.
import Derived.Test.YtmjedjhgomlfiaaDoorWInv
import Derived.Test.YtmjedjhgomlfiaaDoorWFootNe
namespace Go.Proofs.YtmjedjhgomlfiaaDoorW.PrintWords
open Go.RowKit
end Go.Proofs.YtmjedjhgomlfiaaDoorW.PrintWords
namespace Go.Proofs.YtmjedjhgomlfiaaDoorW.PrintLast
section
variable {ops : Array Oper} {a : Act} {o og : Oper} {g : Nat} {t : Tmp} {u : Bool}
end
end Go.Proofs.YtmjedjhgomlfiaaDoorW.PrintLast
