/- The reference's Split: the words. -/
import Derived.Test.YtmjedjhgomlfiaaDoorSplits
import Derived.Test.YtmjedjhgomlfiaaDoorWMore
import Derived.Test.YtmjedjhgomlfiaaDoorRef01
import Derived.WalkSpells
namespace Go.Proofs.YtmjedjhgomlfiaaDoor
open Go.RowKit Go.Proofs.YtmjedjhgomlfiaaDoorW.PrintWords

/-- A fact put aside from the walk's simp. -/
structure Hid (p : Prop) : Prop where
  out : p
theorem info9 : (Tryd.prog.info? 9).map (fun i => (i.zero, i.size, i.bytes)) = some (some (.string ⟨#[]⟩), 1, 16) := by kernel_rfl
theorem hide_ {p : Prop} (h : p) : Hid p := ⟨h⟩

end Go.Proofs.YtmjedjhgomlfiaaDoor
