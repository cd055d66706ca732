/- The reference's Num: refNum. -/
import Derived.Test.YtmjedjhgomlfiaaGreatDoorRef01
import Derived.Test.YtmjedjhgomlfiaaGreatDoorNumsAll
import Derived.Test.YtmjedjhgomlfiaaGreatDoorSplits
import Derived.IntWalk
namespace Go.Proofs.YtmjedjhgomlfiaaGreatDoor
open Go.RowKit Go.Proofs.YtmjedjhgomlfiaaGreatDoorW.PrintWords Ref01 Go.Lib

theorem bt_data (s : ByteArray) (j : Nat) (b : UInt8) (h : s.data.toList[j]? = some b) : bt s (j : Int) = (b.toNat : Int) := by
  have hj := List.getElem?_eq_some_iff.1 h
  have hs : (j : Int).toNat < s.size := by rw [Lib.size_eq]; simpa using hj.1
  rw [← bt_at s j hs, ← hj.2]
  rfl

end Go.Proofs.YtmjedjhgomlfiaaGreatDoor
