/- The example of the operations' laws. -/
import Derived.Test.YtmjedjhgomlfiaaDoorOpParse
import Derived.Test.YtmjedjhgomlfiaaDoorWEqStruct
namespace Go.Proofs.YtmjedjhgomlfiaaDoor
open Go.RowKit Go.Proofs.YtmjedjhgomlfiaaDoorW.PrintWords Go.Lib

end Go.Proofs.YtmjedjhgomlfiaaDoor
