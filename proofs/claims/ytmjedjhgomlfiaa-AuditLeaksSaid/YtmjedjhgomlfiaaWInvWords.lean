-- Printed by print.sh; the parts that this claim does not use are left out.
import Derived.Test.YtmjedjhgomlfiaaWInv
import Derived.Test.YtmjedjhgomlfiaaWFootNe
namespace Go.Proofs.YtmjedjhgomlfiaaW.PrintWords
open Go.RowKit
end Go.Proofs.YtmjedjhgomlfiaaW.PrintWords
namespace Go.Proofs.YtmjedjhgomlfiaaW.PrintLast
section
variable {ops : Array Oper} {a : Act} {o og : Oper} {g : Nat} {t : Tmp} {u : Bool}
end
end Go.Proofs.YtmjedjhgomlfiaaW.PrintLast
