/- The reference's Text: the number's own text. -/
import Derived.Test.YtmjedjhgomlfiaaDoorText
import Derived.Test.YtmjedjhgomlfiaaDoorRef01
import Derived.Test.YtmjedjhgomlfiaaDoorNumsAll
import Derived.IntWalk
namespace Go.Proofs.YtmjedjhgomlfiaaDoor
open Go.RowKit Go.Proofs.YtmjedjhgomlfiaaDoorW.PrintWords Ref01 Go.Lib

theorem ofL_size (a : List UInt8) : (ofL a).size = a.length := by rw [Lib.size_eq]; rfl

end Go.Proofs.YtmjedjhgomlfiaaDoor
