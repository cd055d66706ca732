/- Join and Texts on both sides, and the law's example. -/
import Derived.Test.YtmjedjhgomlfiaaGreatDoorRSplit
import Derived.Lib.Join
import Derived.IntWalk
namespace Go.Proofs.YtmjedjhgomlfiaaGreatDoor
open Go.RowKit Go.Proofs.YtmjedjhgomlfiaaGreatDoorW.PrintWords Ref01

theorem toList_inj {a b : ByteArray} (h : a.toList = b.toList) : a = b := by
  rw [ByteArray.toList_eq, ByteArray.toList_eq] at h
  exact ByteArray.ext (Array.toList_inj.1 h)

/-- The texts, one blank between each two. -/
def joined (l : List ByteArray) : ByteArray := ofL (Lib.join (l.map (·.data.toList)) [32])

theorem join_take (l : List (List UInt8)) (k : Nat) (y : List UInt8) (h : l[k]? = some y) (hk : 0 < k) : Lib.join (l.take (k + 1)) [32] = Lib.join (l.take k) [32] ++ 32 :: y := by
  cases l with
  | nil => simp at h
  | cons x r =>
    obtain ⟨k, rfl⟩ : ∃ i, k = i + 1 := ⟨k - 1, by omega⟩
    rw [List.take_succ_cons, List.take_succ_cons, Lib.join_cons, Lib.join_cons, Lib.joinTail_take_succ [32] r k y (by simpa using h)]
    simp
set_option maxRecDepth 100000 in
theorem join_any (l : List ByteArray) (A : Option Addr) (c : Nat) (w : World) (hA : Kd.string.C w A l.length l) (hc : l.length ≤ c) (hl : l.length ≤ 4294967296) (hj : (Lib.join (l.map (·.data.toList)) [32]).length ≤ 4294967296) :
    Calls Tryz.prog 31 #[.slice A l.length c] w fun e w' => e = .returned (.string (joined l)) ∧ Below w.heap.size w w' := by
  have hcon : Calls Tryz.prog 50 #[.slice A l.length c, .string bl] w fun e w' => e = .returned (.string (joined l)) ∧ Below w.heap.size w w' := by
    rcases l with _ | ⟨x, r⟩
    · exact (Tryz.strings_Join_none A c bl w).mono fun e w' h => ⟨h.1, h.2 ▸ Below.refl _ _⟩
    · obtain ⟨ad, e, hcell⟩ := hA.2.2 (by simp)
      subst e
      have hx : ∀ j p, (x :: r)[j]? = some p → w.cell? (ad.add j) = some (.string p) := by
        intro j p hj
        obtain ⟨cs, h1, h2, h3⟩ := hcell j p hj
        have h2' : cs = [.string p] := h2
        have := h3 0 (.string p) (by rw [h2']; rfl)
        rwa [show j * Kd.string.sz + 0 = j from Nat.mul_one j] at this
      have h0 := hx 0 x rfl
      rw [show ad.add 0 = ad from rfl] at h0
      obtain ⟨B, o, spot⟩ := ad
      obtain rfl : spot = none := World.cell?_spot h0
      refine Tryz.strings_Join B o c (x :: r) bl w (fun j p hj => ?_) (World.block_lt_of_cell? w _ h0) (by omega) hc (by show (Lib.join _ [32]).length ≤ _; omega)
      have := hx j p hj
      unfold Addr.add at this
      split at this
      · rename_i h; subst h; simpa using this
      · exact this
  go_enter Tryz.func31, Tryz.ntmps31
  go_wp2_with (go_at_call 50; refine hcon.mono ?_; rintro e w' ⟨rfl, hb⟩)
  go_ret
  exact ⟨rfl, hb⟩
end Go.Proofs.YtmjedjhgomlfiaaGreatDoor
