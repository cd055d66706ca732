/- The reference's Parse: what the program says. -/
import Derived.Test.YtmjedjhgomlfiaaDoorOpParse
import Derived.Test.YtmjedjhgomlfiaaDoorRNum
namespace Go.Proofs.YtmjedjhgomlfiaaDoor
open Go.RowKit Go.Proofs.YtmjedjhgomlfiaaDoorW.PrintWords Go.Lib

set_option maxRecDepth 100000 in
set_option maxHeartbeats 1600000 in
theorem rparse_any (l : List ByteArray) (A : Option Addr) (cap : Nat) (w : World) (hA : Kd.string.C w A l.length l) (hc : l.length ≤ cap) (hll : l.length ≤ 4294967296) :
    Calls Tryd.prog 28 #[.slice A l.length cap] w fun e w' => e = .returned (.tuple #[(parseW l).1.val, .int .i64 (parseW l).2]) ∧ Below w.heap.size w w' := by
  cases hl : l with
  | nil =>
    subst hl
    go_enter Tryd.func28, Tryd.ntmps28
    go_wp2
    refine bodyPost_ret (results_cell_two rfl _ _ _ _ _ _ _ rfl (heap_alloc_new _ _) Tryd.underlying39 rfl info39) rfl ?_
    exact ⟨rfl, below_alloc (Below.refl _ _) _⟩
  | cons h r =>
    rw [← hl]
    obtain ⟨B, o, rfl, hBw, hcell⟩ := C_str hA (by rw [hl]; simp)
    have hcell0 : w.cell? ⟨B, o, none⟩ = some (.string h) := hcell 0 h (by rw [hl]; rfl)
    have hP : Hid (parseW l = if codeW h = 0 then (zeroV, 8) else if l.length ≠ allW (codeW h) then (zeroV, 7) else match numsW (r.take (numbersW (codeW h)).toNat) with
      | none => (zeroV, 7)
      | some vs => tailW (codeW h) vs (l.getD (allW (codeW h) - 1) ByteArray.empty)) := ⟨by rw [hl]; rfl⟩
    have hcode := fun W => rcode_any h W
    have hnum := fun W => rnumbers_any (codeW h) W
    have hwor := fun W => rworded_any (codeW h) W
    have hth := codeW_there h
    generalize hcd : codeW h = c at *
    have b1 := fun R => (Below.refl w.heap.size w).alloc (Nat.le_refl _) R
    have hR0 : (w.alloc (.cells zeroC 39)).heap[w.heap.size]? = some (.cells zeroC 39 (0, 0)) := heap_alloc_new _ _
    have hlpos : 0 < l.length := by rw [hl]; simp
    have HL := hide_ hl
    clear hl
    by_cases hc0 : c = 0
    · subst hc0
      rw [if_pos rfl] at hP
      go_enter Tryd.func28, Tryd.ntmps28
      go_wp2_with (first
        | (go_at_call 32; refine (hcode _).mono ?_; rintro e w1 ⟨rfl, hB1⟩; have hC1 := below_then (b1 _) (b1 _).size hB1; have hR1 := (hB1.block _ (blk_lt hR0)).trans hR0)
        | (refine gate_ (.store 39 (.tmp 2) (.tmp 22)) rfl ?_; refine wpList_store_row rfl 39 (.tmp 2) (.tmp 22) rfl w.heap.size 39 zeroC zeroC rfl rfl hR1 info39 rfl zeroC_all ?_; intro w2 hR2 _ hB2 _))
      refine bodyPost_ret (results_cell_two rfl _ _ _ _ _ _ _ rfl hR2 Tryd.underlying39 rfl info39) rfl ?_
      exact ⟨by rw [hP.out]; rfl, hC1.trans hB2⟩
    · have hth := hth hc0
      obtain ⟨n1, n4⟩ := numbersW_range hth
      obtain ⟨n, hn⟩ : ∃ n : Nat, numbersW c = n := ⟨(numbersW c).toNat, by omega⟩
      rw [hn] at hnum n1 n4
      have hP1 : Hid (parseW l = if l.length ≠ n + 1 + (if wordedW c = true then 1 else 0) then (zeroV, 7) else match numsW (r.take n) with
        | none => (zeroV, 7)
        | some vs => tailW c vs (l.getD (n + (if wordedW c = true then 1 else 0)) ByteArray.empty)) := ⟨by
          rw [hP.out, if_neg hc0, allW, hn, Int.toNat_natCast]
          have e : n + 1 + (if wordedW c = true then 1 else 0) - 1 = n + (if wordedW c = true then 1 else 0) := by omega
          rw [e]⟩
      clear hP
      have hq0 : (c == 0) = false := by rw [beq_eq_false_iff_ne]; exact hc0
      cases hb : wordedW c with
      | false =>
        rw [hb] at hwor hP1
        by_cases hlen : l.length = n + 1
        · have hne : ((l.length : Int) != 1 + (n : Int)) = false := by rw [bne_eq_false_iff_eq]; omega
          have HR : Hid (parseW l = match numsW (r.take n) with | none => (zeroV, 7) | some vs => tailW c vs (l.getD n ByteArray.empty)) := ⟨by rw [hP1.out, if_neg (by simpa using hlen)]; rfl⟩
          have hcn : n + 1 ≤ cap := by omega
          have HB := hide_ hb
          clear hc0 hn hth hb
          go_enter Tryd.func28, Tryd.ntmps28
          go_wp2_with (first
            | (go_at_call 32; refine (hcode _).mono ?_; rintro e w1 ⟨rfl, hB1⟩; have hC1 := below_then (b1 _) (b1 _).size hB1; have hR1 := (hB1.block _ (blk_lt hR0)).trans hR0)
            | (go_at_call 34; refine (hnum _).mono ?_; rintro e w2 ⟨rfl, hB2⟩; have hC2 := below_then hC1 hC1.size hB2; have hR2 := (hB2.block _ (blk_lt hR1)).trans hR1)
            | (go_at_call 36; refine (hwor _).mono ?_; rintro e w3 ⟨rfl, hB3⟩; have hC3 := below_then hC2 hC2.size hB3; have hR3 := (hB3.block _ (blk_lt hR2)).trans hR2)
            | (refine gate_ (.store 39 (.tmp 2) (.tmp 35)) rfl ?_; refine wpList_store_row rfl 39 (.tmp 2) (.tmp 35) rfl w.heap.size 39 zeroC zeroC rfl rfl hR3 info39 rfl zeroC_all ?_; intro w4 hR4 _ hB4 _))
          have hNg : w.heap.size < w3.heap.size := blk_lt hR3
          have hC3s := hC3.size
          rw [show ((n : Int) + 1 != 1 + (n : Int)) = false by rw [bne_eq_false_iff_eq]; omega]
          go_loopw [8] (fun v wr => ∃ (i : Nat) (v0 v1 v2 v3 : Int), i ≤ n ∧ v = .int .i64 i ∧ wr.heap[w.heap.size]? = some (.cells zeroC 39 (0, 0)) ∧ wr.heap[w3.heap.size]? = some (.cells #[.int .i64 v0, .int .i64 v1, .int .i64 v2, .int .i64 v3] 92 (0, 0))
            ∧ Hid (numsW (r.take i) = some ([v0, v1, v2, v3].take i)) ∧ Hid ([v0, v1, v2, v3].drop i = List.replicate (4 - i) 0) ∧ Below w.heap.size w wr) (fun v _ => n - (intOf v).toNat)
          case atStart =>
            refine ⟨0, 0, 0, 0, 0, Nat.zero_le _, rfl, ?_, heap_alloc_new _ _, ⟨rfl⟩, ⟨rfl⟩, hC3.alloc hC3.size _⟩
            exact (heap_alloc_old _ _ hNg).trans hR3
          case round =>
            obtain ⟨i, v0, v1, v2, v3, hi, rfl, hR, hX, HN, HZ, hBr⟩ := hrel
            by_cases hlt : i < n
            · obtain ⟨x, hx⟩ : ∃ x, l[1 + i]? = some x := ⟨_, List.getElem?_eq_getElem (by omega)⟩
              have hxr : r[i]? = some x := by
                have := hx; rw [HL.out, Nat.add_comm, List.getElem?_cons_succ] at this; exact this
              have hci : wr.cell? ⟨B, o + (1 + i), none⟩ = some (.string x) := (hBr.cell (p := ⟨B, o + (1 + i), none⟩) hBw).trans (hcell (1 + i) x hx)
              have hnum44 := rnum_any x wr
              rw [← num_same] at hnum44
              cases hok : (wordNum x.data.toList).2 with
              | false =>
                rw [hok] at hnum44
                have HF : Hid (parseW l = (zeroV, 7)) := ⟨by
                  rw [HR.out, numsW_bad x hok _ (mem_take hxr hlt)]⟩
                clear hx hxr hok
                go_wp2_with (first
                  | (go_at_call 44; refine hnum44.mono ?_; rintro e w4 ⟨rfl, hB4⟩; have hR4 := (hB4.block _ (blk_lt hR)).trans hR)
                  | (refine gate_ (.store 39 (.tmp 2) (.tmp 52)) rfl ?_; refine wpList_store_row rfl 39 (.tmp 2) (.tmp 52) rfl w.heap.size 39 zeroC zeroC rfl rfl hR4 info39 rfl zeroC_all ?_; intro w5 hR5 _ hB5 _))
                refine bodyPost_ret (results_cell_two rfl _ _ _ _ _ _ _ rfl hR5 Tryd.underlying39 rfl info39) rfl ?_
                exact ⟨by rw [HF.out]; rfl, (below_then hBr hBr.size hB4).trans hB5⟩
              | true =>
                rw [hok] at hnum44
                have HF : Hid (numsW (r.take (i + 1)) = some ([v0, v1, v2, v3].take i ++ [(wordNum x.data.toList).1])) := ⟨by
                  rw [take_snoc _ _ _ hxr, numsW_snoc, HN.out, Option.bind_some, if_pos hok]⟩
                clear hx hxr hok
                generalize (wordNum x.data.toList).1 = u at *
                have hcase : i = 0 ∨ i = 1 ∨ i = 2 ∨ i = 3 := by omega
                rcases hcase with rfl | rfl | rfl | rfl
                · go_wp2_with (go_at_call 44; refine hnum44.mono ?_; rintro e w4 ⟨rfl, hB4⟩; have hR4 := (hB4.block _ (blk_lt hR)).trans hR; have hX4 := (hB4.block _ (blk_lt hX)).trans hX; have hq : w4.cell? ⟨w3.heap.size, 0, none⟩ = some (.int .i64 v0) := blk_cell hX4 0; have hqf := blk_frozen hX4 0)
                  go_roundw
                  case rel =>
                    refine ⟨1, u, v1, v2, v3, by omega, by go_num, blk_far hR4 (by show _ ≠ w3.heap.size; omega) _, blk_set hX4 0 _, HF, ?_, (below_then hBr hBr.size hB4).setCell (p := ⟨w3.heap.size, 0, none⟩) (by show w.heap.size ≤ w3.heap.size; omega) _⟩
                    have hz := HZ.out
                    exact ⟨by simp [List.replicate] at hz ⊢; try omega⟩
                  case measure => simp [intOf]; omega
                · go_wp2_with (go_at_call 44; refine hnum44.mono ?_; rintro e w4 ⟨rfl, hB4⟩; have hR4 := (hB4.block _ (blk_lt hR)).trans hR; have hX4 := (hB4.block _ (blk_lt hX)).trans hX; have hq : w4.cell? ⟨w3.heap.size, 1, none⟩ = some (.int .i64 v1) := blk_cell hX4 1; have hqf := blk_frozen hX4 1)
                  go_roundw
                  case rel =>
                    refine ⟨2, v0, u, v2, v3, by omega, by go_num, blk_far hR4 (by show _ ≠ w3.heap.size; omega) _, blk_set hX4 1 _, HF, ?_, (below_then hBr hBr.size hB4).setCell (p := ⟨w3.heap.size, 1, none⟩) (by show w.heap.size ≤ w3.heap.size; omega) _⟩
                    have hz := HZ.out
                    exact ⟨by simp [List.replicate] at hz ⊢; try omega⟩
                  case measure => simp [intOf]; omega
                · go_wp2_with (go_at_call 44; refine hnum44.mono ?_; rintro e w4 ⟨rfl, hB4⟩; have hR4 := (hB4.block _ (blk_lt hR)).trans hR; have hX4 := (hB4.block _ (blk_lt hX)).trans hX; have hq : w4.cell? ⟨w3.heap.size, 2, none⟩ = some (.int .i64 v2) := blk_cell hX4 2; have hqf := blk_frozen hX4 2)
                  go_roundw
                  case rel =>
                    refine ⟨3, v0, v1, u, v3, by omega, by go_num, blk_far hR4 (by show _ ≠ w3.heap.size; omega) _, blk_set hX4 2 _, HF, ?_, (below_then hBr hBr.size hB4).setCell (p := ⟨w3.heap.size, 2, none⟩) (by show w.heap.size ≤ w3.heap.size; omega) _⟩
                    have hz := HZ.out
                    exact ⟨by simp [List.replicate] at hz ⊢; try omega⟩
                  case measure => simp [intOf]; omega
                · go_wp2_with (go_at_call 44; refine hnum44.mono ?_; rintro e w4 ⟨rfl, hB4⟩; have hR4 := (hB4.block _ (blk_lt hR)).trans hR; have hX4 := (hB4.block _ (blk_lt hX)).trans hX; have hq : w4.cell? ⟨w3.heap.size, 3, none⟩ = some (.int .i64 v3) := blk_cell hX4 3; have hqf := blk_frozen hX4 3)
                  go_roundw
                  case rel =>
                    refine ⟨4, v0, v1, v2, u, by omega, by go_num, blk_far hR4 (by show _ ≠ w3.heap.size; omega) _, blk_set hX4 3 _, HF, ?_, (below_then hBr hBr.size hB4).setCell (p := ⟨w3.heap.size, 3, none⟩) (by show w.heap.size ≤ w3.heap.size; omega) _⟩
                    exact ⟨by simp⟩
                  case measure => simp [intOf]; omega
            · obtain rfl : i = n := by omega
              have k0 : wr.cell? ⟨w3.heap.size, 0, none⟩ = some (.int .i64 v0) := blk_cell hX 0
              have k1 : wr.cell? ⟨w3.heap.size, 1, none⟩ = some (.int .i64 v1) := blk_cell hX 1
              have k2 : wr.cell? ⟨w3.heap.size, 2, none⟩ = some (.int .i64 v2) := blk_cell hX 2
              have k3 : wr.cell? ⟨w3.heap.size, 3, none⟩ = some (.int .i64 v3) := blk_cell hX 3
              have hwr := fun W => hwor W
              have hBx := fun X => hBr.alloc hBr.size X
              have hRx : ∀ X, (wr.alloc X).heap[w.heap.size]? = some (.cells zeroC 39 (0, 0)) := fun X => (heap_alloc_old _ _ (blk_lt hR)).trans hR
              have HT : Hid (parseW l = (⟨c, v0, v1, v2, v3, ⟨#[]⟩⟩, 0)) := ⟨by
                obtain ⟨t0, t1, t2, t3⟩ := take4 (by omega) (by omega) HZ.out
                rw [HR.out, HN.out]
                show tailW c _ _ = _
                rw [tailW, if_neg (by rw [HB.out]; simp), t0, t1, t2, t3]⟩
              go_wp2_with (first
                | (go_at_call 36; refine (hwr _).mono ?_; rintro e w4 ⟨rfl, hB4⟩; have hC4 := below_then (hBx _) (hBx _).size hB4; have hR4 := (hB4.block _ (blk_lt (hRx _))).trans (hRx _); have hX5 := (hB4.block _ (by simp)).trans (heap_alloc_new _ _))
                | (refine gate_ (.load 39 (.tmp 11)) rfl ?_; refine wpList_load_row rfl 39 (.tmp 11) rfl _ rfl _ _ _ _ hX5 Tryd.underlying39 rfl info39 ?_)
                | (refine gate_ (.store 39 (.tmp 2) (.tmp 90)) rfl ?_; refine wpList_store_row rfl 39 (.tmp 2) (.tmp 90) rfl w.heap.size 39 zeroC _ rfl rfl hR4 info39 rfl (by simp [Value.oneCell']) ?_; intro w6 hR6 _ hB6 _))
              refine bodyPost_ret (results_cell_two rfl _ _ _ _ _ _ _ rfl hR6 Tryd.underlying39 rfl info39) rfl ?_
              exact ⟨by rw [HT.out]; rfl, hC4.trans hB6⟩
        · have hne : ((l.length : Int) != 1 + (n : Int)) = true := by rw [bne_iff_ne]; omega
          have HR : Hid (parseW l = (zeroV, 7)) := ⟨by rw [hP1.out, if_pos (by simpa using hlen)]⟩
          clear hc0 hn hth hlen hb
          go_enter Tryd.func28, Tryd.ntmps28
          go_wp2_with (first
            | (go_at_call 32; refine (hcode _).mono ?_; rintro e w1 ⟨rfl, hB1⟩; have hC1 := below_then (b1 _) (b1 _).size hB1; have hR1 := (hB1.block _ (blk_lt hR0)).trans hR0)
            | (go_at_call 34; refine (hnum _).mono ?_; rintro e w2 ⟨rfl, hB2⟩; have hC2 := below_then hC1 hC1.size hB2; have hR2 := (hB2.block _ (blk_lt hR1)).trans hR1)
            | (go_at_call 36; refine (hwor _).mono ?_; rintro e w3 ⟨rfl, hB3⟩; have hC3 := below_then hC2 hC2.size hB3; have hR3 := (hB3.block _ (blk_lt hR2)).trans hR2)
            | (refine gate_ (.store 39 (.tmp 2) (.tmp 35)) rfl ?_; refine wpList_store_row rfl 39 (.tmp 2) (.tmp 35) rfl w.heap.size 39 zeroC zeroC rfl rfl hR3 info39 rfl zeroC_all ?_; intro w4 hR4 _ hB4 _))
          refine bodyPost_ret (results_cell_two rfl _ _ _ _ _ _ _ rfl hR4 Tryd.underlying39 rfl info39) rfl ?_
          exact ⟨by rw [HR.out]; rfl, hC3.trans hB4⟩
      | true =>
        rw [hb] at hwor hP1
        by_cases hlen : l.length = n + 1 + 1
        · have hne : ((l.length : Int) != 1 + (n : Int) + 1) = false := by rw [bne_eq_false_iff_eq]; omega
          have HR : Hid (parseW l = match numsW (r.take n) with | none => (zeroV, 7) | some vs => tailW c vs (l.getD (n + 1) ByteArray.empty)) := ⟨by rw [hP1.out, if_neg (by simpa using hlen)]; rfl⟩
          have hcn : n + 1 + 1 ≤ cap := by omega
          have HB := hide_ hb
          clear hc0 hn hth hb
          go_enter Tryd.func28, Tryd.ntmps28
          go_wp2_with (first
            | (go_at_call 32; refine (hcode _).mono ?_; rintro e w1 ⟨rfl, hB1⟩; have hC1 := below_then (b1 _) (b1 _).size hB1; have hR1 := (hB1.block _ (blk_lt hR0)).trans hR0)
            | (go_at_call 34; refine (hnum _).mono ?_; rintro e w2 ⟨rfl, hB2⟩; have hC2 := below_then hC1 hC1.size hB2; have hR2 := (hB2.block _ (blk_lt hR1)).trans hR1)
            | (go_at_call 36; refine (hwor _).mono ?_; rintro e w3 ⟨rfl, hB3⟩; have hC3 := below_then hC2 hC2.size hB3; have hR3 := (hB3.block _ (blk_lt hR2)).trans hR2)
            | (refine gate_ (.store 39 (.tmp 2) (.tmp 35)) rfl ?_; refine wpList_store_row rfl 39 (.tmp 2) (.tmp 35) rfl w.heap.size 39 zeroC zeroC rfl rfl hR3 info39 rfl zeroC_all ?_; intro w4 hR4 _ hB4 _))
          have hNg : w.heap.size < w3.heap.size := blk_lt hR3
          have hC3s := hC3.size
          rw [show ((n : Int) + 1 + 1 != 1 + (n : Int) + 1) = false by rw [bne_eq_false_iff_eq]; omega]
          go_loopw [8] (fun v wr => ∃ (i : Nat) (v0 v1 v2 v3 : Int), i ≤ n ∧ v = .int .i64 i ∧ wr.heap[w.heap.size]? = some (.cells zeroC 39 (0, 0)) ∧ wr.heap[w3.heap.size]? = some (.cells #[.int .i64 v0, .int .i64 v1, .int .i64 v2, .int .i64 v3] 92 (0, 0))
            ∧ Hid (numsW (r.take i) = some ([v0, v1, v2, v3].take i)) ∧ Hid ([v0, v1, v2, v3].drop i = List.replicate (4 - i) 0) ∧ Below w.heap.size w wr) (fun v _ => n - (intOf v).toNat)
          case atStart =>
            refine ⟨0, 0, 0, 0, 0, Nat.zero_le _, rfl, ?_, heap_alloc_new _ _, ⟨rfl⟩, ⟨rfl⟩, hC3.alloc hC3.size _⟩
            exact (heap_alloc_old _ _ hNg).trans hR3
          case round =>
            obtain ⟨i, v0, v1, v2, v3, hi, rfl, hR, hX, HN, HZ, hBr⟩ := hrel
            by_cases hlt : i < n
            · obtain ⟨x, hx⟩ : ∃ x, l[1 + i]? = some x := ⟨_, List.getElem?_eq_getElem (by omega)⟩
              have hxr : r[i]? = some x := by
                have := hx; rw [HL.out, Nat.add_comm, List.getElem?_cons_succ] at this; exact this
              have hci : wr.cell? ⟨B, o + (1 + i), none⟩ = some (.string x) := (hBr.cell (p := ⟨B, o + (1 + i), none⟩) hBw).trans (hcell (1 + i) x hx)
              have hnum44 := rnum_any x wr
              rw [← num_same] at hnum44
              cases hok : (wordNum x.data.toList).2 with
              | false =>
                rw [hok] at hnum44
                have HF : Hid (parseW l = (zeroV, 7)) := ⟨by
                  rw [HR.out, numsW_bad x hok _ (mem_take hxr hlt)]⟩
                clear hx hxr hok
                go_wp2_with (first
                  | (go_at_call 44; refine hnum44.mono ?_; rintro e w4 ⟨rfl, hB4⟩; have hR4 := (hB4.block _ (blk_lt hR)).trans hR)
                  | (refine gate_ (.store 39 (.tmp 2) (.tmp 52)) rfl ?_; refine wpList_store_row rfl 39 (.tmp 2) (.tmp 52) rfl w.heap.size 39 zeroC zeroC rfl rfl hR4 info39 rfl zeroC_all ?_; intro w5 hR5 _ hB5 _))
                refine bodyPost_ret (results_cell_two rfl _ _ _ _ _ _ _ rfl hR5 Tryd.underlying39 rfl info39) rfl ?_
                exact ⟨by rw [HF.out]; rfl, (below_then hBr hBr.size hB4).trans hB5⟩
              | true =>
                rw [hok] at hnum44
                have HF : Hid (numsW (r.take (i + 1)) = some ([v0, v1, v2, v3].take i ++ [(wordNum x.data.toList).1])) := ⟨by
                  rw [take_snoc _ _ _ hxr, numsW_snoc, HN.out, Option.bind_some, if_pos hok]⟩
                clear hx hxr hok
                generalize (wordNum x.data.toList).1 = u at *
                have hcase : i = 0 ∨ i = 1 ∨ i = 2 ∨ i = 3 := by omega
                rcases hcase with rfl | rfl | rfl | rfl
                · go_wp2_with (go_at_call 44; refine hnum44.mono ?_; rintro e w4 ⟨rfl, hB4⟩; have hR4 := (hB4.block _ (blk_lt hR)).trans hR; have hX4 := (hB4.block _ (blk_lt hX)).trans hX; have hq : w4.cell? ⟨w3.heap.size, 0, none⟩ = some (.int .i64 v0) := blk_cell hX4 0; have hqf := blk_frozen hX4 0)
                  go_roundw
                  case rel =>
                    refine ⟨1, u, v1, v2, v3, by omega, by go_num, blk_far hR4 (by show _ ≠ w3.heap.size; omega) _, blk_set hX4 0 _, HF, ?_, (below_then hBr hBr.size hB4).setCell (p := ⟨w3.heap.size, 0, none⟩) (by show w.heap.size ≤ w3.heap.size; omega) _⟩
                    have hz := HZ.out
                    exact ⟨by simp [List.replicate] at hz ⊢; try omega⟩
                  case measure => simp [intOf]; omega
                · go_wp2_with (go_at_call 44; refine hnum44.mono ?_; rintro e w4 ⟨rfl, hB4⟩; have hR4 := (hB4.block _ (blk_lt hR)).trans hR; have hX4 := (hB4.block _ (blk_lt hX)).trans hX; have hq : w4.cell? ⟨w3.heap.size, 1, none⟩ = some (.int .i64 v1) := blk_cell hX4 1; have hqf := blk_frozen hX4 1)
                  go_roundw
                  case rel =>
                    refine ⟨2, v0, u, v2, v3, by omega, by go_num, blk_far hR4 (by show _ ≠ w3.heap.size; omega) _, blk_set hX4 1 _, HF, ?_, (below_then hBr hBr.size hB4).setCell (p := ⟨w3.heap.size, 1, none⟩) (by show w.heap.size ≤ w3.heap.size; omega) _⟩
                    have hz := HZ.out
                    exact ⟨by simp [List.replicate] at hz ⊢; try omega⟩
                  case measure => simp [intOf]; omega
                · go_wp2_with (go_at_call 44; refine hnum44.mono ?_; rintro e w4 ⟨rfl, hB4⟩; have hR4 := (hB4.block _ (blk_lt hR)).trans hR; have hX4 := (hB4.block _ (blk_lt hX)).trans hX; have hq : w4.cell? ⟨w3.heap.size, 2, none⟩ = some (.int .i64 v2) := blk_cell hX4 2; have hqf := blk_frozen hX4 2)
                  go_roundw
                  case rel =>
                    refine ⟨3, v0, v1, u, v3, by omega, by go_num, blk_far hR4 (by show _ ≠ w3.heap.size; omega) _, blk_set hX4 2 _, HF, ?_, (below_then hBr hBr.size hB4).setCell (p := ⟨w3.heap.size, 2, none⟩) (by show w.heap.size ≤ w3.heap.size; omega) _⟩
                    have hz := HZ.out
                    exact ⟨by simp [List.replicate] at hz ⊢; try omega⟩
                  case measure => simp [intOf]; omega
                · go_wp2_with (go_at_call 44; refine hnum44.mono ?_; rintro e w4 ⟨rfl, hB4⟩; have hR4 := (hB4.block _ (blk_lt hR)).trans hR; have hX4 := (hB4.block _ (blk_lt hX)).trans hX; have hq : w4.cell? ⟨w3.heap.size, 3, none⟩ = some (.int .i64 v3) := blk_cell hX4 3; have hqf := blk_frozen hX4 3)
                  go_roundw
                  case rel =>
                    refine ⟨4, v0, v1, v2, u, by omega, by go_num, blk_far hR4 (by show _ ≠ w3.heap.size; omega) _, blk_set hX4 3 _, HF, ?_, (below_then hBr hBr.size hB4).setCell (p := ⟨w3.heap.size, 3, none⟩) (by show w.heap.size ≤ w3.heap.size; omega) _⟩
                    exact ⟨by simp⟩
                  case measure => simp [intOf]; omega
            · obtain rfl : i = n := by omega
              have k0 : wr.cell? ⟨w3.heap.size, 0, none⟩ = some (.int .i64 v0) := blk_cell hX 0
              have k1 : wr.cell? ⟨w3.heap.size, 1, none⟩ = some (.int .i64 v1) := blk_cell hX 1
              have k2 : wr.cell? ⟨w3.heap.size, 2, none⟩ = some (.int .i64 v2) := blk_cell hX 2
              have k3 : wr.cell? ⟨w3.heap.size, 3, none⟩ = some (.int .i64 v3) := blk_cell hX 3
              have hwr := fun W => hwor W
              have hBx := fun X => hBr.alloc hBr.size X
              have hRx : ∀ X, (wr.alloc X).heap[w.heap.size]? = some (.cells zeroC 39 (0, 0)) := fun X => (heap_alloc_old _ _ (blk_lt hR)).trans hR
              obtain ⟨y, hy⟩ : ∃ y, l[i + 1]? = some y := ⟨_, List.getElem?_eq_getElem (by omega)⟩
              have HT : Hid (parseW l = if y ≠ ⟨#[45]⟩ then (if rightW y.data.toList = true then (⟨c, v0, v1, v2, v3, y⟩, 0) else (zeroV, 7)) else (⟨c, v0, v1, v2, v3, ⟨#[]⟩⟩, 0)) := ⟨by
                obtain ⟨t0, t1, t2, t3⟩ := take4 (by omega) (by omega) HZ.out
                have hgy : l.getD (i + 1) ByteArray.empty = y := by simp [List.getD, hy]
                rw [HR.out, HN.out]
                show tailW c _ _ = _
                rw [tailW, t0, t1, t2, t3, hgy, HB.out]
                simp only [true_and]⟩
              have hcy : ∀ W, Below w.heap.size w W → W.cell? ⟨B, o + (1 + i), none⟩ = some (.string y) := fun W hW => by
                rw [Nat.add_comm 1 i]; exact (hW.cell (p := ⟨B, o + (i + 1), none⟩) hBw).trans (hcell (i + 1) y hy)
              have hri := fun W => rright_any y W
              clear hy
              by_cases hmin : y = ⟨#[45]⟩
              · rw [if_neg (by simpa using hmin)] at HT
                have hm : (y.toList == [45]) = true := by rw [hmin, beq_iff_eq]; exact ByteArray.toList_eq _
                clear hmin
                go_wp2_with (first
                  | (go_at_call 36; refine (hwr _).mono ?_; rintro e w4 ⟨rfl, hB4⟩; have hC4 := below_then (hBx _) (hBx _).size hB4; have hR4 := (hB4.block _ (blk_lt (hRx _))).trans (hRx _); have hX5 := (hB4.block _ (by simp)).trans (heap_alloc_new _ _); have hy4 := hcy _ hC4)
                  | (refine gate_ (.load 39 (.tmp 11)) rfl ?_; refine wpList_load_row rfl 39 (.tmp 11) rfl _ rfl _ _ _ _ hX5 Tryd.underlying39 rfl info39 ?_)
                  | (refine gate_ (.store 39 (.tmp 2) (.tmp 90)) rfl ?_; refine wpList_store_row rfl 39 (.tmp 2) (.tmp 90) rfl w.heap.size 39 zeroC _ rfl rfl hR4 info39 rfl (by simp [Value.oneCell']) ?_; intro w6 hR6 _ hB6 _))
                refine bodyPost_ret (results_cell_two rfl _ _ _ _ _ _ _ rfl hR6 Tryd.underlying39 rfl info39) rfl ?_
                exact ⟨by rw [HT.out]; rfl, hC4.trans hB6⟩
              · rw [if_pos hmin] at HT
                have hm : (y.toList == [45]) = false := by
                  rw [beq_eq_false_iff_ne]; intro h; exact hmin (toList_inj (h.trans (ByteArray.toList_eq ⟨#[45]⟩).symm))
                clear hmin
                cases hrw : rightW y.data.toList with
                | false =>
                  rw [hrw] at HT hri
                  clear hrw
                  go_wp2_with (first
                    | (go_at_call 36; refine (hwr _).mono ?_; rintro e w4 ⟨rfl, hB4⟩; have hC4 := below_then (hBx _) (hBx _).size hB4; have hR4 := (hB4.block _ (blk_lt (hRx _))).trans (hRx _); have hy4 := hcy _ hC4)
                    | (go_at_call 46; refine (hri _).mono ?_; rintro e w5 ⟨rfl, hB5⟩; have hC5 := below_then hC4 hC4.size hB5; have hR5 := (hB5.block _ (blk_lt hR4)).trans hR4)
                    | (refine gate_ (.store 39 (.tmp 2) (.tmp 83)) rfl ?_; refine wpList_store_row rfl 39 (.tmp 2) (.tmp 83) rfl w.heap.size 39 zeroC zeroC rfl rfl hR5 info39 rfl zeroC_all ?_; intro w6 hR6 _ hB6 _))
                  refine bodyPost_ret (results_cell_two rfl _ _ _ _ _ _ _ rfl hR6 Tryd.underlying39 rfl info39) rfl ?_
                  exact ⟨by rw [HT.out]; rfl, hC5.trans hB6⟩
                | true =>
                  rw [hrw] at HT hri
                  clear hrw
                  go_wp2_with (first
                    | (go_at_call 36; refine (hwr _).mono ?_; rintro e w4 ⟨rfl, hB4⟩; have hC4 := below_then (hBx _) (hBx _).size hB4; have hR4 := (hB4.block _ (blk_lt (hRx _))).trans (hRx _); have hX4 := (hB4.block _ (by simp)).trans (heap_alloc_new _ _); have hy4 := hcy _ hC4)
                    | (go_at_call 46; refine (hri _).mono ?_; rintro e w5 ⟨rfl, hB5⟩; have hC5 := below_then hC4 hC4.size hB5; have hR5 := (hB5.block _ (blk_lt hR4)).trans hR4; have hy5 := hcy _ hC5; have hX6 := (hB5.block _ (blk_lt hX4)).trans hX4; have hq : w5.cell? ⟨wr.heap.size, 5, none⟩ = some (.string ⟨#[]⟩) := blk_cell hX6 5; have hqf := blk_frozen hX6 5; have hX5 : (w5.setCell ⟨wr.heap.size, 5, none⟩ (.string y)).heap[wr.heap.size]? = some (.cells #[.int .i64 c, .int .i64 v0, .int .i64 v1, .int .i64 v2, .int .i64 v3, .string y] 39 (0, 0)) := blk_set hX6 5 (.string y); have hR7 := blk_far (p := ⟨wr.heap.size, 5, none⟩) hR5 (by have := blk_lt hR; show _ ≠ wr.heap.size; omega) (.string y))
                    | (refine gate_ (.load 39 (.tmp 11)) rfl ?_; refine wpList_load_row rfl 39 (.tmp 11) rfl _ rfl _ _ _ _ hX5 Tryd.underlying39 rfl info39 ?_)
                    | (refine gate_ (.store 39 (.tmp 2) (.tmp 90)) rfl ?_; refine wpList_store_row rfl 39 (.tmp 2) (.tmp 90) rfl w.heap.size 39 zeroC _ rfl rfl hR7 info39 rfl (by simp [Value.oneCell']) ?_; intro w6 hR6 _ hB6 _))
                  refine bodyPost_ret (results_cell_two rfl _ _ _ _ _ _ _ rfl hR6 Tryd.underlying39 rfl info39) rfl ?_
                  exact ⟨by rw [HT.out]; rfl, (hC5.setCell (p := ⟨wr.heap.size, 5, none⟩) hBr.size _).trans hB6⟩
        · have hne : ((l.length : Int) != 1 + (n : Int) + 1) = true := by rw [bne_iff_ne]; omega
          have HR : Hid (parseW l = (zeroV, 7)) := ⟨by rw [hP1.out, if_pos (by simpa using hlen)]⟩
          clear hc0 hn hth hlen hb
          go_enter Tryd.func28, Tryd.ntmps28
          go_wp2_with (first
            | (go_at_call 32; refine (hcode _).mono ?_; rintro e w1 ⟨rfl, hB1⟩; have hC1 := below_then (b1 _) (b1 _).size hB1; have hR1 := (hB1.block _ (blk_lt hR0)).trans hR0)
            | (go_at_call 34; refine (hnum _).mono ?_; rintro e w2 ⟨rfl, hB2⟩; have hC2 := below_then hC1 hC1.size hB2; have hR2 := (hB2.block _ (blk_lt hR1)).trans hR1)
            | (go_at_call 36; refine (hwor _).mono ?_; rintro e w3 ⟨rfl, hB3⟩; have hC3 := below_then hC2 hC2.size hB3; have hR3 := (hB3.block _ (blk_lt hR2)).trans hR2)
            | (refine gate_ (.store 39 (.tmp 2) (.tmp 35)) rfl ?_; refine wpList_store_row rfl 39 (.tmp 2) (.tmp 35) rfl w.heap.size 39 zeroC zeroC rfl rfl hR3 info39 rfl zeroC_all ?_; intro w4 hR4 _ hB4 _))
          refine bodyPost_ret (results_cell_two rfl _ _ _ _ _ _ _ rfl hR4 Tryd.underlying39 rfl info39) rfl ?_
          exact ⟨by rw [HR.out]; rfl, hC3.trans hB4⟩
end Go.Proofs.YtmjedjhgomlfiaaDoor
