/- Functions printed by print.sh over this seat, taken together. -/
import Derived.Test.YtmjedjhgomlfiaaDoorPOpTextsx0
import Derived.Test.YtmjedjhgomlfiaaDoorRef01
namespace Go.Proofs.YtmjedjhgomlfiaaDoor.Ref19
open Go.Proofs.YtmjedjhgomlfiaaDoor.Ref01 Go.RowKit Go.Proofs.YtmjedjhgomlfiaaDoorW.PrintWords Go.Proofs.YtmjedjhgomlfiaaDoorW.PrintLast Go.Proofs.YtmjedjhgomlfiaaDoorW.PrintMore
attribute [local go_sem] max2_int min2_int max_two min_two max_three min_three max_four min_four   -- for this text's walks alone
set_option linter.unusedVariables false
set_option linter.unusedSimpArgs false

/-! ### towncrierref19_Name: function 30 -/
/-! ### towncrierref19_Code: function 32 -/
/-! ### towncrierref19_Numbers: function 34 -/
/-! ### towncrierref19_Worded: function 36 -/
/-! ### towncrierref19_Right: function 40 -/
end Go.Proofs.YtmjedjhgomlfiaaDoor.Ref19
