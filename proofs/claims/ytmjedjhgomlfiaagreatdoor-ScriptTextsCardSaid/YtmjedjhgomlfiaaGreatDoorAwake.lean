/- The laws' example: Split tells the words apart. -/
import Derived.Test.YtmjedjhgomlfiaaGreatDoorJoins
namespace Go.Proofs.YtmjedjhgomlfiaaGreatDoor
open Go.RowKit Go.Proofs.YtmjedjhgomlfiaaGreatDoorW.PrintWords

end Go.Proofs.YtmjedjhgomlfiaaGreatDoor
