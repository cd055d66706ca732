/- The reference's Parse: what the program says. -/
import Derived.Test.YtmjedjhgomlfiaaDoorOpParse
import Derived.Test.YtmjedjhgomlfiaaDoorRNum
namespace Go.Proofs.YtmjedjhgomlfiaaDoor
open Go.RowKit Go.Proofs.YtmjedjhgomlfiaaDoorW.PrintWords Go.Lib

end Go.Proofs.YtmjedjhgomlfiaaDoor
