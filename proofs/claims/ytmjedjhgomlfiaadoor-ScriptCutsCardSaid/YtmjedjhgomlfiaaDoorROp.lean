/- The reference's Name, Code, Numbers and Worded: what the program says. -/
import Derived.Test.YtmjedjhgomlfiaaDoorRef19
import Derived.Test.YtmjedjhgomlfiaaDoorOpCode
import Derived.IntWalk
namespace Go.Proofs.YtmjedjhgomlfiaaDoor
open Go.RowKit Go.Proofs.YtmjedjhgomlfiaaDoorW.PrintWords Go.Lib Ref19

end Go.Proofs.YtmjedjhgomlfiaaDoor
