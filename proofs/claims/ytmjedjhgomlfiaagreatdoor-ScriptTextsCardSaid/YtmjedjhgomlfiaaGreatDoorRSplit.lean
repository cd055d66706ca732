/- The reference's Split: the words. -/
import Derived.Test.YtmjedjhgomlfiaaGreatDoorSplits
import Derived.Test.YtmjedjhgomlfiaaGreatDoorWMore
import Derived.Test.YtmjedjhgomlfiaaGreatDoorRef01
import Derived.WalkSpells
namespace Go.Proofs.YtmjedjhgomlfiaaGreatDoor
open Go.RowKit Go.Proofs.YtmjedjhgomlfiaaGreatDoorW.PrintWords

/-- A fact put aside from the walk's simp. -/
structure Hid (p : Prop) : Prop where
  out : p
theorem info9 : (Tryz.prog.info? 9).map (fun i => (i.zero, i.size, i.bytes)) = some (some (.string ⟨#[]⟩), 1, 16) := by kernel_rfl
theorem hide_ {p : Prop} (h : p) : Hid p := ⟨h⟩

end Go.Proofs.YtmjedjhgomlfiaaGreatDoor
