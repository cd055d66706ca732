/- The example of the operations' laws. -/
import Derived.Test.YtmjedjhgomlfiaaDoorOpParse
import Derived.Test.YtmjedjhgomlfiaaDoorWEqStruct
namespace Go.Proofs.YtmjedjhgomlfiaaDoor
open Go.RowKit Go.Proofs.YtmjedjhgomlfiaaDoorW.PrintWords Go.Lib

def exL : List ByteArray := [⟨#[97, 112, 112, 101, 110, 100]⟩, ⟨#[51]⟩, ⟨#[49]⟩]
theorem parse_ex : parseW exL = (⟨4, 3, 1, 0, 0, ⟨#[]⟩⟩, 0) := by
  have h : (parseW exL).1.code = 4 ∧ (parseW exL).1.a = 3 ∧ (parseW exL).1.b = 1 ∧ (parseW exL).1.c = 0 ∧ (parseW exL).1.d = 0 ∧ (parseW exL).1.s = ⟨#[]⟩ ∧ (parseW exL).2 = 0 := by decide +kernel
  rcases hp : parseW exL with ⟨⟨a, b, c, d, e, s⟩, f⟩
  rw [hp] at h
  obtain ⟨h1, h2, h3, h4, h5, h6, h7⟩ := h
  simp only at h1 h2 h3 h4 h5 h6 h7
  subst h1 h2 h3 h4 h5 h6 h7
  rfl

set_option maxRecDepth 100000 in
set_option maxHeartbeats 1600000 in
theorem opAwake_any (w : World) (hO : LayO w) : Calls Tryd.prog 26 #[] w fun e w' => e = .returned (.bool true) ∧ Below w.heap.size w w' := by
  have hb : Below w.heap.size w (w.alloc (.cells (exL.map Value.string).toArray 9)) := below_alloc (Below.refl _ _) _
  have hC := C_of_cells (xs := exL) (w := w.alloc (.cells (exL.map Value.string).toArray 9)) (B := w.heap.size) (by decide) (by
    intro j x hj
    have hb : (w.alloc (.cells (exL.map Value.string).toArray 9)).heap[w.heap.size]? = some (.cells (exL.map Value.string).toArray 9 (0, 0)) := Array.getElem?_push_size
    rw [blk_cell hb]
    simp [hj])
  have hp := parse_any exL _ 3 _ (hO.below hb) hC (by decide) (by decide) (by decide +kernel)
  rw [parse_ex] at hp
  simp only [OpV.val] at hp
  go_enter Tryd.func26, Tryd.ntmps26
  go_wp2_with (go_at_call 27; refine hp.mono ?_; rintro e w1 ⟨rfl, hB1⟩)
  go_ret
  exact ⟨rfl, (below_then hb hb.size hB1).alloc (below_then hb hb.size hB1).size _⟩
end Go.Proofs.YtmjedjhgomlfiaaDoor
