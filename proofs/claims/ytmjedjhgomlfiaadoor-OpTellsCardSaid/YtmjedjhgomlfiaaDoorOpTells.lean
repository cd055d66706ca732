/- OpTells: the law's call returns true. -/
import Derived.Test.YtmjedjhgomlfiaaDoorOpAwake
namespace Go.Proofs.YtmjedjhgomlfiaaDoor
open Go.RowKit Go.Proofs.YtmjedjhgomlfiaaDoorW.PrintWords Go.Lib

set_option maxRecDepth 100000 in
set_option maxHeartbeats 1600000 in
theorem opTells_any (c : Int) (s : ByteArray) (w : World) (hO : LayO w) : Calls Tryd.prog 7 #[.int .i64 c, .string s] w fun e w' => e = .returned (.bool true) ∧ Below w.heap.size w w' := by
  have haw := opAwake_any w hO
  by_cases h100 : 100 < s.size
  · have q : (100 : Int) < s.size := by omega
    go_enter Tryd.func7, Tryd.ntmps7
    go_wp2_with (go_at_call 26; refine haw.mono ?_; rintro e w0 ⟨rfl, hB0⟩)
    go_ret
    exact ⟨rfl, hB0⟩
  · have q : ¬ (100 : Int) < s.size := by omega
    have c29 := fun W h => name_any c W h
    have c30 := fun W => rname_any c W
    have c31 := fun W h => code_any s W h
    have c32 := fun W => rcode_any s W
    have c33 := fun W h => numbers_any c W h
    have c34 := fun W => rnumbers_any c W
    have c35 := fun W h => worded_any c W h
    have c36 := fun W => rworded_any c W
    generalize nameW c = r1 at *
    generalize codeW s = r2 at *
    generalize numbersW c = r3 at *
    generalize wordedW c = r4 at *
    go_enter Tryd.func7, Tryd.ntmps7
    go_wp2_with (first
      | (go_at_call 26; refine haw.mono ?_; rintro e w0 ⟨rfl, hB0⟩)
      | (go_at_call 29; refine (c29 _ (hO.below hB0)).mono ?_; rintro e w1 ⟨rfl, rfl⟩)
      | (go_at_call 30; refine (c30 _).mono ?_; rintro e w2 ⟨rfl, hB2⟩; have hC2 := below_then hB0 hB0.size hB2)
      | (go_at_call 31; refine (c31 _ (hO.below hC2)).mono ?_; rintro e w3 ⟨rfl, rfl⟩)
      | (go_at_call 32; refine (c32 _).mono ?_; rintro e w4 ⟨rfl, hB4⟩; have hC4 := below_then hC2 hC2.size hB4)
      | (go_at_call 33; refine (c33 _ (hO.below hC4)).mono ?_; rintro e w5 ⟨rfl, rfl⟩)
      | (go_at_call 34; refine (c34 _).mono ?_; rintro e w6 ⟨rfl, hB6⟩; have hC6 := below_then hC4 hC4.size hB6)
      | (go_at_call 35; refine (c35 _ (hO.below hC6)).mono ?_; rintro e w7 ⟨rfl, rfl⟩)
      | (go_at_call 36; refine (c36 _).mono ?_; rintro e w8 ⟨rfl, hB8⟩; have hC8 := below_then hC6 hC6.size hB8))
    all_goals (go_ret)
    all_goals (exact ⟨by simp, hC8⟩)
end Go.Proofs.YtmjedjhgomlfiaaDoor
