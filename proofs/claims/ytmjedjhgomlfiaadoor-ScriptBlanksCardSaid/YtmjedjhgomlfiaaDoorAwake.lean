/- The laws' example: Split tells the words apart. -/
import Derived.Test.YtmjedjhgomlfiaaDoorJoins
namespace Go.Proofs.YtmjedjhgomlfiaaDoor
open Go.RowKit Go.Proofs.YtmjedjhgomlfiaaDoorW.PrintWords

theorem words_ex : words ⟨#[32, 97, 100, 100, 32, 32, 53, 32, 120]⟩ = [⟨#[97, 100, 100]⟩, ⟨#[53]⟩, ⟨#[120]⟩] := by
  rw [words_W]
  decide +kernel

set_option maxRecDepth 100000 in
set_option maxHeartbeats 1600000 in
theorem awake_any (w : World) (hL : w.ShapedOpen Tryd.prog) :
    Calls Tryd.prog 15 #[] w fun e w' => e = .returned (.bool true) ∧ Below w.heap.size w w' := by
  have hsp := split_any ⟨#[32, 97, 100, 100, 32, 32, 53, 32, 120]⟩ w hL (by decide)
  rw [words_ex] at hsp
  go_enter Tryd.func15, Tryd.ntmps15
  go_wp2_with (go_at_call 20; refine hsp.mono ?_; rintro e w1 ⟨A, c, rfl, hc, hC, hB⟩)
  have hx := C_of_cells (xs := [⟨#[97, 100, 100]⟩, ⟨#[53]⟩, ⟨#[120]⟩]) (w := w1.alloc (.cells #[.string ⟨#[97, 100, 100]⟩, .string ⟨#[53]⟩, .string ⟨#[120]⟩] 9)) (B := w1.heap.size) (by decide) (by
    intro j x hj
    have hb : (w1.alloc (.cells #[.string ⟨#[97, 100, 100]⟩, .string ⟨#[53]⟩, .string ⟨#[120]⟩] 9)).heap[w1.heap.size]? = some (.cells #[.string ⟨#[97, 100, 100]⟩, .string ⟨#[53]⟩, .string ⟨#[120]⟩] 9 (0, 0)) := Array.getElem?_push_size
    rw [blk_cell hb]
    rcases j with _ | _ | _ | j <;> simp at hj ⊢ <;> exact hj)
  have hbel : Below w1.heap.size w1 (w1.alloc (.cells #[.string ⟨#[97, 100, 100]⟩, .string ⟨#[53]⟩, .string ⟨#[120]⟩] 9)) := below_alloc (Below.refl _ _) _
  have hT := texts_any _ _ A (some ⟨w1.heap.size, 0, none⟩) c 3 _ (by decide) (Kd.C_below hC hbel) hc hx (by decide)
  go_wp2_with (go_at_call 19; refine hT.mono ?_; rintro e w2 ⟨rfl, hB2⟩)
  go_ret
  exact ⟨by simp, below_then (below_then hB hB.size hbel) (by have := hB.size; have := hbel.size; omega) hB2⟩
end Go.Proofs.YtmjedjhgomlfiaaDoor
