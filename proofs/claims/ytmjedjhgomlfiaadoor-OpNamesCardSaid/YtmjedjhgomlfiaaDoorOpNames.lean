/- OpNames: the law's call returns true. -/
import Derived.Test.YtmjedjhgomlfiaaDoorOpAwake
namespace Go.Proofs.YtmjedjhgomlfiaaDoor
open Go.RowKit Go.Proofs.YtmjedjhgomlfiaaDoorW.PrintWords Go.Lib

/-- How many codes below c, from -3 on, have a name. -/
def seenW (m : Nat) : Nat := ((List.range m).filter fun (i : Nat) => there ((i : Int) - 3)).length
theorem seenW_succ (m : Nat) : seenW (m + 1) = seenW m + (if there ((m : Int) - 3) = true then 1 else 0) := by
  unfold seenW
  rw [List.range_succ, List.filter_append, List.length_append]
  by_cases h : there ((m : Int) - 3) = true <;> simp [h]
theorem seenW_le (m : Nat) : seenW m ≤ m := by
  unfold seenW
  exact Nat.le_trans (List.length_filter_le _ _) (by simp)
theorem named_in : ∀ j : Fin 18, 1 ≤ j.val → (nameW (j.val : Int)).toList.isEmpty = false ∧ codeW (nameW (j.val : Int)) = (j.val : Int) := by decide +kernel
theorem named {c : Int} (h : there c = true) : (nameW c).toList.isEmpty = false ∧ codeW (nameW c) = c := by
  obtain ⟨j, rfl, h1, h2⟩ := there_nat h
  exact named_in ⟨j, h2⟩ h1
theorem unnamed {c : Int} (h : there c = false) : nameW c = ⟨#[]⟩ := by
  rw [nameW, h]; rfl
theorem code_empty : codeW ⟨#[]⟩ = 0 := by decide +kernel

set_option maxRecDepth 100000 in
set_option maxHeartbeats 1600000 in
theorem opNames_any (c : Int) (w : World) (hO : LayO w) : Calls Tryd.prog 8 #[.int .i64 c] w fun e w' => e = .returned (.bool true) ∧ Below w.heap.size w w' := by
  have haw := opAwake_any w hO
  go_enter Tryd.func8, Tryd.ntmps8
  go_wp2_with (go_at_call 26; refine haw.mono ?_; rintro e w0 ⟨rfl, hB0⟩)
  have hO0 := hO.below hB0
  go_loopw [3, 4] (fun s v wr => ∃ (m : Nat), m ≤ 34 ∧ v = .int .i64 ((m : Int) - 3) ∧ s = .int .i64 (seenW m) ∧ wr = w0) (fun _ v _ => 34 - (intOf v + 3).toNat)
  case atStart => exact ⟨0, by omega, rfl, rfl, rfl⟩
  case round =>
    obtain ⟨m, hm, rfl, rfl, rfl⟩ := hrel
    by_cases hlt : m < 34
    · have c29 := name_any ((m : Int) - 3) wr hO0
      have hle : (m : Int) - 3 ≤ 30 := by omega
      have hsl := seenW_le m
      cases ht : there ((m : Int) - 3) with
      | true =>
        have hs := seenW_succ m
        rw [if_pos ht] at hs
        obtain ⟨n1, n2⟩ := named ht
        obtain ⟨r1, r2⟩ := numbersW_range ht
        have c31 := code_any (nameW ((m : Int) - 3)) wr hO0
        have c33 := numbers_any ((m : Int) - 3) wr hO0
        rw [n2] at c31
        generalize nameW ((m : Int) - 3) = x at *
        generalize numbersW ((m : Int) - 3) = k at *
        clear ht
        have HS := hide_ hs
        clear hs
        go_wp2_with (first
          | (go_at_call 29; refine c29.mono ?_; rintro e w1 ⟨rfl, rfl⟩)
          | (go_at_call 31; refine c31.mono ?_; rintro e w1 ⟨rfl, rfl⟩)
          | (go_at_call 33; refine c33.mono ?_; rintro e w1 ⟨rfl, rfl⟩))
        go_roundw
        case rel => exact ⟨m + 1, by omega, by go_num, by rw [HS.out]; go_num, trivial⟩
        case measure => simp [intOf]; omega
      | false =>
        have hs := seenW_succ m
        rw [ht] at hs
        rw [unnamed ht] at c29
        have HS := hide_ hs
        clear hs ht
        go_wp2_with (go_at_call 29; refine c29.mono ?_; rintro e w1 ⟨rfl, rfl⟩)
        go_roundw
        case rel => exact ⟨m + 1, by omega, by go_num, by rw [HS.out]; rfl, trivial⟩
        case measure => simp [intOf]; omega
    · obtain rfl : m = 34 := by omega
      have h17 : ((seenW 34 : Nat) : Int) = 17 := by decide +kernel
      generalize ((seenW 34 : Nat) : Int) = q at *
      subst h17
      have hce : ∀ W, LayO W → Calls Tryd.prog 31 #[.string ⟨#[]⟩] W fun e w' => e = .returned (.int .i64 0) ∧ w' = W := by
        have h := code_any ⟨#[]⟩
        rw [code_empty] at h
        exact h
      have hce0 := hce _ hO0
      have c29 := name_any c wr hO0
      cases ht : there c with
      | true =>
        obtain ⟨n1, n2⟩ := named ht
        have c31 := code_any (nameW c) wr hO0
        rw [n2] at c31
        generalize nameW c = x at *
        clear ht
        go_wp2_with (first
          | (go_at_call 29; refine c29.mono ?_; rintro e w1 ⟨rfl, rfl⟩)
          | (go_at_call 31; refine c31.mono ?_; clear c31; rintro e w1 ⟨rfl, rfl⟩)
          | (go_at_call 31; refine hce0.mono ?_; rintro e w1 ⟨rfl, rfl⟩))
        go_ret
        exact ⟨by simp, hB0⟩
      | false =>
        rw [unnamed ht] at c29
        clear ht
        go_wp2_with (first
          | (go_at_call 29; refine c29.mono ?_; rintro e w1 ⟨rfl, rfl⟩)
          | (go_at_call 31; refine hce0.mono ?_; rintro e w1 ⟨rfl, rfl⟩))
        go_ret
        exact ⟨by simp, hB0⟩
end Go.Proofs.YtmjedjhgomlfiaaDoor
