/- Two arrays of two whole numbers are equal just if both numbers are. -/
import Derived.Test.YtmjedjhgomlfiaaProg
import Derived.WalkKit
namespace Go.Proofs.Ytmjedjhgomlfiaa
open Go.RowKit

theorem run_equalIn_arr2 {P : Program} {t e : TypeId} {k : IntKind} {i : TypeInfo} (ht : P.underlying t = some (.array 2 e)) (he : P.underlying e = some (.int k)) (hi : P.info? e = some i) (hs : i.size = 1)
    (a b c d : Int) (n : Nat) (w : World) :
    (Op.equalIn (n + 2) t (.agg #[.int k a, .int k b]) (.agg #[.int k c, .int k d])).run P w = .ok (decide ((a, b) = (c, d))) w := by
  have h1 : ∀ (x y : Int) (w : World), (Op.equalIn (n + 1) e (.int k x) (.int k y)).run P w = .ok (x == y) w := fun x y w => run_equalIn_int w n e k k x y he
  rw [Op.equalIn]
  by_cases hac : a = c <;> by_cases hbd : b = d <;>
    simp [run_underlying ht, run_underlying he, isAgg, sizeOf, typeInfo, hi, hs, part, Std.Legacy.Range.forIn_eq_forIn_range', List.range'_succ, h1, hac, hbd, Prod.mk.injEq]
end Go.Proofs.Ytmjedjhgomlfiaa
