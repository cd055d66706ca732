/- The laws' example: Split tells the words apart. -/
import Derived.Test.YtmjedjhgomlfiaaDoorJoins
namespace Go.Proofs.YtmjedjhgomlfiaaDoor
open Go.RowKit Go.Proofs.YtmjedjhgomlfiaaDoorW.PrintWords

end Go.Proofs.YtmjedjhgomlfiaaDoor
