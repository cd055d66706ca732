/- Arguments of the door seat's laws, opened. -/
import Derived.Test.YtmjedjhgomlfiaaDoorOpens
import Derived.Test.YtmjedjhgomlfiaaDoorProg
namespace Go.Proofs.YtmjedjhgomlfiaaDoor
open Go.RowKit Go.Proofs.YtmjedjhgomlfiaaDoorW.PrintWords
theorem cells9F : Tryd.prog.cellsOf 9 = 1 := by kernel_rfl
theorem opens_textsF : Opens Tryd.prog 22 (Kd.slice 9 Kd.string) (fun _ => True) := opens_imp (opens_slice Tryd.underlying22 cells9F (opens_string Tryd.underlying9)) (fun _ _ => trivial)
end Go.Proofs.YtmjedjhgomlfiaaDoor
