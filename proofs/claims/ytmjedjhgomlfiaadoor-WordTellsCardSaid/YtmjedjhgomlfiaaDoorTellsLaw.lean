/- WordTells: the law's call returns true. -/
import Derived.Test.YtmjedjhgomlfiaaDoorNum
import Derived.Test.YtmjedjhgomlfiaaDoorRNum
import Derived.Test.YtmjedjhgomlfiaaDoorRight
import Derived.Test.YtmjedjhgomlfiaaDoorJoinsLaw
namespace Go.Proofs.YtmjedjhgomlfiaaDoor
open Go.RowKit Go.Proofs.YtmjedjhgomlfiaaDoorW.PrintWords Go.Lib

theorem words_len (s : ByteArray) : (words s).length ≤ s.size + 1 := by
  have h1 : (words s).length ≤ (pieces s).length := List.length_filter_le _ _
  have h2 := pieces_length s
  have h3 : Lib.countB s bl ≤ s.size := Lib.countB_le bl (by decide) _ s (Nat.le_refl _)
  omega

set_option maxRecDepth 100000 in
set_option maxHeartbeats 1600000 in
theorem wordTells_any (s : ByteArray) (w : World) (hL : w.ShapedOpen Tryd.prog) (hN : Lay w) :
    Calls Tryd.prog 11 #[.string s] w fun e w' => e = .returned (.bool true) ∧ Below w.heap.size w w' := by
  have haw := awake_any w hL
  by_cases h1000 : 1000 < s.size
  · have q : (1000 : Int) < s.size := by omega
    go_enter Tryd.func11, Tryd.ntmps11
    go_wp2_with (go_at_call 15; refine haw.mono ?_; rintro e w0 ⟨rfl, hB0⟩)
    go_ret
    exact ⟨rfl, hB0⟩
  · have q : ¬ (1000 : Int) < s.size := by omega
    have hwl := words_len s
    have hsame := num_same s.data.toList
    have hn := fun W (h : Lay W) => num_any s (by omega) W h
    have hr := fun W => rnum_any s W
    rw [hsame] at hn
    clear hsame
    generalize (refNum s.data.toList).1 = n1 at hn hr
    generalize (refNum s.data.toList).2 = n2 at hn hr
    have hp := fun W => right_any s W
    have hq := fun W => rright_any s W
    generalize rightW s.data.toList = rw1 at hp hq
    have hsp := fun W (h : w.heap.size ≤ w.heap.size ∧ Below w.heap.size w W) => split_any s W (shaped_below hL h.2) (by omega)
    have hrs := fun W => refSplit_len s W (by omega)
    have htx := fun A B c d W h1 h2 h3 h4 => texts_any (words s) (words s) A B c d W (by omega) h1 h2 h3 h4
    go_enter Tryd.func11, Tryd.ntmps11
    go_wp2_with (first
      | (go_at_call 15; refine haw.mono ?_; rintro e w0 ⟨rfl, hB0⟩)
      | (go_at_call 42; refine (hn _ (hN.below hB0)).mono ?_; rintro e w1 ⟨rfl, hB1⟩; have hC1 := below_then hB0 hB0.size hB1)
      | (go_at_call 44; refine (hr _).mono ?_; rintro e w2 ⟨rfl, hB2⟩; have hC2 := below_then hC1 hC1.size hB2)
      | (go_at_call 45; refine (hp _).mono ?_; rintro e w3 ⟨rfl, hB3⟩; have hC3 := below_then hC2 hC2.size hB3)
      | (go_at_call 46; refine (hq _).mono ?_; rintro e w4 ⟨rfl, hB4⟩; have hC4 := below_then hC3 hC3.size hB4)
      | (go_at_call 20; refine (hsp _ ⟨Nat.le_refl _, hC4⟩).mono ?_; rintro e w5 ⟨A, c, rfl, hc, hC, hB5⟩; have hC5 := below_then hC4 hC4.size hB5)
      | (go_at_call 16; refine (hrs _).mono ?_; rintro e w6 ⟨B, d, rfl, hd, hD, hB6⟩; have hC6 := below_then hC5 hC5.size hB6; have hCx := Kd.C_below hC hB6)
      | (go_at_call 19; refine (htx _ _ _ _ _ hCx hc hD hd).mono ?_; rintro e w7 ⟨rfl, hB7⟩; have hC7 := below_then hC6 hC6.size hB7))
    all_goals (go_ret)
    all_goals (exact ⟨by simp, hC7⟩)
end Go.Proofs.YtmjedjhgomlfiaaDoor
