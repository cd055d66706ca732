/- The reference's Num: refNum. -/
import Derived.Test.YtmjedjhgomlfiaaDoorRef01
import Derived.Test.YtmjedjhgomlfiaaDoorNumsAll
import Derived.Test.YtmjedjhgomlfiaaDoorSplits
import Derived.IntWalk
namespace Go.Proofs.YtmjedjhgomlfiaaDoor
open Go.RowKit Go.Proofs.YtmjedjhgomlfiaaDoorW.PrintWords Ref01 Go.Lib

end Go.Proofs.YtmjedjhgomlfiaaDoor
