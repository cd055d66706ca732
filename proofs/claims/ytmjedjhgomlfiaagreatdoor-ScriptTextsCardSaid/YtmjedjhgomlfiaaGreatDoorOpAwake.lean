/- The example of the operations' laws. -/
import Derived.Test.YtmjedjhgomlfiaaGreatDoorOpParse
import Derived.Test.YtmjedjhgomlfiaaGreatDoorWEqStruct
namespace Go.Proofs.YtmjedjhgomlfiaaGreatDoor
open Go.RowKit Go.Proofs.YtmjedjhgomlfiaaGreatDoorW.PrintWords Go.Lib

end Go.Proofs.YtmjedjhgomlfiaaGreatDoor
