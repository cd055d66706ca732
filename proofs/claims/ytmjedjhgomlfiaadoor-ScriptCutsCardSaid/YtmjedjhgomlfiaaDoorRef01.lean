/- Functions printed by print.sh over this seat, taken together. -/
import Derived.Test.YtmjedjhgomlfiaaDoorPWordTellsx0
namespace Go.Proofs.YtmjedjhgomlfiaaDoor.Ref01
open Go.RowKit Go.Proofs.YtmjedjhgomlfiaaDoorW.PrintWords Go.Proofs.YtmjedjhgomlfiaaDoorW.PrintLast Go.Proofs.YtmjedjhgomlfiaaDoorW.PrintMore
attribute [local go_sem] max2_int min2_int max_two min_two max_three min_three max_four min_four   -- for this text's walks alone
set_option linter.unusedVariables false
set_option linter.unusedSimpArgs false

/-! ### towncrierref01_Texts: function 19 -/
/-! ### towncrierref01_Join: function 18 -/
/-! ### towncrierref01_Text: function 43 -/
/-! ### towncrierref01_Num: function 44 -/
/-! ### towncrierref01_Right: function 46 -/
end Go.Proofs.YtmjedjhgomlfiaaDoor.Ref01
