/- WordNums: the law's call returns true. -/
import Derived.Test.YtmjedjhgomlfiaaDoorNum
import Derived.Test.YtmjedjhgomlfiaaDoorRText
import Derived.Test.YtmjedjhgomlfiaaDoorAwake
import Derived.ChangeOld
import Derived.ChangeAgain
import Derived.ShapedOpen
import Derived.Lib.ItoaLen
namespace Go.Proofs.YtmjedjhgomlfiaaDoor
open Go.RowKit Go.Proofs.YtmjedjhgomlfiaaDoorW.PrintWords Go.Lib

theorem wordNum_far (n : Int) (h : ¬ (-1000000 ≤ n ∧ n ≤ 1000000)) : wordNum (itoa n) = (0, false) := by
  rw [num_same]
  refine Classical.byContradiction fun x => ?_
  obtain ⟨m, hm, he⟩ := refNum_true _ x
  have h1 := atoi_itoa m
  rw [he, atoi_itoa] at h1
  exact h (Option.some.inj h1 ▸ hm)
theorem itoa_size (n : Int) (h0 : -9223372036854775808 ≤ n) (h1 : n ≤ 9223372036854775807) : (ofL (itoa n)).size ≤ 281474976710656 := by
  rw [ofL_size]
  have := itoa_length_le n h0 h1
  omega

set_option maxRecDepth 100000 in
set_option maxHeartbeats 1600000 in
theorem wordNums_any (n : Int) (h0 : -9223372036854775808 ≤ n) (h1 : n ≤ 9223372036854775807) (w : World) (hL : w.ShapedOpen Tryd.prog) (hN : Lay w) :
    Calls Tryd.prog 10 #[.int .i64 n] w fun e w' => e = .returned (.bool true) ∧ Below w.heap.size w w' := by
  have haw := awake_any w hL
  have hsz := itoa_size n h0 h1
  go_enter Tryd.func10, Tryd.ntmps10
  go_wp2_with (go_at_call 15; refine haw.mono ?_; rintro e w0 ⟨rfl, hB0⟩)
  have ht := text_any n h0 h1 w0 (hN.below hB0).pow
  go_wp2_with (go_at_call 41; refine ht.mono ?_; rintro e w1 ⟨rfl, hB1⟩)
  have hBw1 := below_then hB0 hB0.size hB1
  have hn := num_any (ofL (itoa n)) hsz w1 (hN.below hBw1)
  rw [data_ofL] at hn
  have hr := fun W => rtext_any n h0 h1 W
  by_cases hin : -1000000 ≤ n ∧ n ≤ 1000000
  · rw [wordNum_itoa n hin] at hn
    obtain ⟨i1, i2⟩ := hin
    go_wp2_with (first
      | (go_at_call 42; refine hn.mono ?_; rintro e w2 ⟨rfl, hB2⟩)
      | (go_at_call 43; refine (hr _).mono ?_; rintro e w3 ⟨rfl, hB3⟩))
    all_goals (go_ret)
    all_goals (exact ⟨by simp [*], below_then (below_then hBw1 hBw1.size hB2) (by have := hBw1.size; have := hB2.size; omega) hB3⟩)
  · rw [wordNum_far n hin] at hn
    have hfar : (decide (-1000000 ≤ n) && decide (n ≤ 1000000)) = false := by
      by_cases a : -1000000 ≤ n
      · have : ¬ n ≤ 1000000 := fun b => hin ⟨a, b⟩
        simp [this]
      · simp [a]
    clear hin
    by_cases i1 : -1000000 ≤ n
    · have i2 : ¬ n ≤ 1000000 := by simpa [i1] using hfar
      clear hfar
      go_wp2_with (first
        | (go_at_call 42; refine hn.mono ?_; rintro e w2 ⟨rfl, hB2⟩)
        | (go_at_call 43; refine (hr _).mono ?_; rintro e w3 ⟨rfl, hB3⟩))
      all_goals (go_ret)
      all_goals (exact ⟨by simp [*], below_then (below_then hBw1 hBw1.size hB2) (by have := hBw1.size; have := hB2.size; omega) hB3⟩)
    · clear hfar
      go_wp2_with (first
        | (go_at_call 42; refine hn.mono ?_; rintro e w2 ⟨rfl, hB2⟩)
        | (go_at_call 43; refine (hr _).mono ?_; rintro e w3 ⟨rfl, hB3⟩))
      all_goals (go_ret)
      all_goals (exact ⟨by simp [*], below_then (below_then hBw1 hBw1.size hB2) (by have := hBw1.size; have := hB2.size; omega) hB3⟩)
end Go.Proofs.YtmjedjhgomlfiaaDoor
