/- The reference's Parse: what the program says. -/
import Derived.Test.YtmjedjhgomlfiaaGreatDoorOpParse
import Derived.Test.YtmjedjhgomlfiaaGreatDoorRNum
namespace Go.Proofs.YtmjedjhgomlfiaaGreatDoor
open Go.RowKit Go.Proofs.YtmjedjhgomlfiaaGreatDoorW.PrintWords Go.Lib

end Go.Proofs.YtmjedjhgomlfiaaGreatDoor
