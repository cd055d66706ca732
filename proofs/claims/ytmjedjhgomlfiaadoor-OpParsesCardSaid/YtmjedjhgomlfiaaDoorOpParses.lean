/- OpParses: the law's call returns true. -/
import Derived.Test.YtmjedjhgomlfiaaDoorOpAwake
import Derived.Test.YtmjedjhgomlfiaaDoorROpParse
namespace Go.Proofs.YtmjedjhgomlfiaaDoor
open Go.RowKit Go.Proofs.YtmjedjhgomlfiaaDoorW.PrintWords Go.Lib

set_option maxRecDepth 100000 in
set_option maxHeartbeats 1600000 in
theorem opParses_any (l : List ByteArray) (A : Option Addr) (cap : Nat) (w : World) (hO : LayO w) (hA : Kd.string.C w A l.length l) (hc : l.length ≤ cap) :
    Calls Tryd.prog 6 #[.slice A l.length cap] w fun e w' => e = .returned (.bool true) ∧ Below w.heap.size w w' := by
  have haw := opAwake_any w hO
  by_cases h20 : 20 < l.length
  · have q : (20 : Int) < l.length := by omega
    go_enter Tryd.func6, Tryd.ntmps6
    go_wp2_with (go_at_call 26; refine haw.mono ?_; rintro e w0 ⟨rfl, hB0⟩)
    go_ret
    exact ⟨rfl, hB0⟩
  · have q : ¬ (20 : Int) < l.length := by omega
    have hp := fun W (hW : Below w.heap.size w W) (hs : ∀ x ∈ l, x.size ≤ 281474976710656) => parse_any l A cap W (hO.below hW) (Kd.C_below hA hW) hc (by omega) hs
    have hr := fun W (hW : Below w.heap.size w W) => rparse_any l A cap W (Kd.C_below hA hW) hc (by omega)
    simp only [OpV.val] at hp hr
    generalize (parseW l).1 = x at hp hr
    generalize (parseW l).2 = f at hp hr
    have hcell : ∀ (j : Nat) (x : ByteArray), l[j]? = some x → ∃ B o, A = some ⟨B, o, none⟩ ∧ B < w.heap.size ∧ w.cell? ⟨B, o + j, none⟩ = some (.string x) := fun j x hj => by
      obtain ⟨B, o, e, h1, h2⟩ := C_str hA (fun h => by rw [h] at hj; simp at hj)
      exact ⟨B, o, e, h1, h2 j x hj⟩
    go_enter Tryd.func6, Tryd.ntmps6
    go_wp2_with (go_at_call 26; refine haw.mono ?_; rintro e w0 ⟨rfl, hB0⟩)
    go_loopw [3] (fun v wr => ∃ j : Nat, j ≤ l.length ∧ v = .int .i64 j ∧ wr = w0 ∧ Hid (∀ x ∈ l.take j, x.size ≤ 100)) (fun v _ => l.length - (intOf v).toNat)
    case atStart => exact ⟨0, Nat.zero_le _, rfl, rfl, ⟨by simp⟩⟩
    case round =>
      obtain ⟨j, hj, rfl, rfl, HS⟩ := hrel
      by_cases hlt : j < l.length
      · obtain ⟨y, hy⟩ : ∃ y, l[j]? = some y := ⟨_, List.getElem?_eq_getElem hlt⟩
        obtain ⟨B, o, rfl, hBw, hc0⟩ := hcell j y hy
        have hcy := (hB0.cell (p := ⟨B, o + j, none⟩) hBw).trans hc0
        by_cases h100 : 100 < y.size
        · have q2 : (100 : Int) < y.size := by omega
          go_wp2
          go_ret
          exact ⟨rfl, hB0⟩
        · have q2 : ¬ (100 : Int) < y.size := by omega
          have HS2 : Hid (∀ x ∈ l.take (j + 1), x.size ≤ 100) := ⟨by
            rw [take_snoc _ _ _ hy]
            intro x hx
            rcases List.mem_append.1 hx with h | h
            · exact HS.out x h
            · simp at h; subst h; omega⟩
          clear hy
          go_wp2
          go_roundw
          case rel => exact ⟨j + 1, hlt, by go_num, trivial, HS2⟩
          case measure => simp [intOf]; omega
      · obtain rfl : j = l.length := by omega
        have HA : Hid (∀ x ∈ l, x.size ≤ 281474976710656) := ⟨by
          have h := HS.out
          rw [List.take_length] at h
          intro x hx
          have := h x hx
          omega⟩
        go_wp2_with (first
          | (go_at_call 27; refine (hp _ hB0 HA.out).mono ?_; rintro e w1 ⟨rfl, hB1⟩; have hC1 := (below_then hB0 hB0.size hB1).alloc (below_then hB0 hB0.size hB1).size (.cells #[.int .i64 x.code, .int .i64 x.a, .int .i64 x.b, .int .i64 x.c, .int .i64 x.d, .string x.s] 39))
          | (go_at_call 28; refine (hr _ hC1).mono ?_; rintro e w2 ⟨rfl, hB2⟩; have hC2 := below_then hC1 hC1.size hB2; have hX4 := (hB2.block w1.heap.size (by simp)).trans (heap_alloc_new w1 _); have hX5 := fun X => (heap_alloc_old w2 X (blk_lt hX4)).trans hX4)
          | (refine gate_ (.load 39 (.tmp 4)) rfl ?_; refine wpList_load_row rfl 39 (.tmp 4) rfl _ rfl _ _ _ _ (hX5 _) Tryd.underlying39 rfl info39 ?_))
        all_goals (go_ret)
        all_goals (exact ⟨by simp, hC2.alloc hC2.size _⟩)
end Go.Proofs.YtmjedjhgomlfiaaDoor
