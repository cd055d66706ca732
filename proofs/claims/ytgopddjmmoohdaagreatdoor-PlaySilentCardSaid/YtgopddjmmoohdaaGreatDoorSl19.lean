/- The texts of this seat, joined: part 19 of 25. -/
import Derived.Test.YtgopddjmmoohdaaGreatDoorSl01
import Derived.Test.YtgopddjmmoohdaaGreatDoorSl18
import Derived.Test.YtgopddjmmoohdaaGreatDoorSl12
/- world: event. -/
set_option linter.unusedSimpArgs false
set_option linter.unusedVariables false
set_option maxRecDepth 100000
set_option maxHeartbeats 3200000
namespace Go.Proofs.YtgopddjmmoohdaaGreatDoor
open Go.RowKit Go.Proofs.YtgopddjmmoohdaaGreatDoorW.PrintWords Go.Proofs.YtgopddjmmoohdaaGreatDoorW.PrintLast Go.Proofs.YtgopddjmmoohdaaGreatDoor.PPlaySilent

theorem event_op {cl : Nat → Nat} {w0 w : World} {Wb F L B calls : Nat} {st : St} (h : WoC cl w0 w Wb F L B calls st) (rel : Int) (x : S39) :
    Calls Tryz.prog 55 #[.pointer (some ⟨Wb, 0, none⟩), .int .i64 rel, opV x] w (WoPost cl w0 w Wb F L B calls (evW st rel x)) := by
  obtain ⟨f0, f1, f2, f3, f4, f5⟩ := x
  have hb := fun X => below_alloc (Below.refl w.heap.size w) X
  obtain ⟨own, v, bs, hWb, hE, hown⟩ := h.ev
  obtain ⟨A, c, rfl, hlc, -⟩ := Kd.R_reads hE.row
  have hbn := hd_ hE.bn
  have hvB := hd_ (fun e => Kd.R_ne hE.row hWb (by decide) e)
  rw [hbn.out] at hWb hE hvB
  have hth := fun W (hB : Below w.heap.size w W) => wthere_any (h.below hB) rel
  have hbi := fun W => bits_any f1 W
  have hri := fun W => right_any f5 W
  have HM := hd_ (show evW st rel ⟨f0, f1, f2, f3, f4, f5⟩ = if bitsB f1 = false then (st, 0, 1) else if (rel != 0 && !isN st.l rel) = true then (st, 0, 1) else if rightW f5.data.toList = false then (st, 0, 1) else if 128 ≤ st.ev.length then (st, 0, 9) else ({ st with ev := st.ev ++ [newEv f5 rel (hasB f1 1) (hasB f1 2) (hasB f1 4)] }, (st.ev.length : Int) + 1, 0) from rfl)
  simp only [opV]
  generalize evW st rel ⟨f0, f1, f2, f3, f4, f5⟩ = er at *
  cases hbt : bitsB f1 with
  | false =>
    have HF := hd_ (HM.out.trans (if_pos hbt))
    have hno := hd_ (fun W hB => h.no (W := W) HF.out hB)
    rw [hbt] at hbi
    clear HM h hE hown hWb hbt hbn hvB
    go_enter Tryz.func55, Tryz.ntmps55
    go_wp2_with (go_at_call 84; (with_reducible refine (hbi _).mono ?_); rintro e w' ⟨rfl, hw⟩; obtain rfl := hw.symm)
    go_ret2
    exact hno.out _ (hb _)
  | true =>
    replace HM := hd_ (HM.out.trans (if_neg (by simp [hbt])))
    rw [hbt] at hbi
    replace hbt := hd_ hbt
    by_cases k0 : rel = 0
    · subst k0
      have hrp := hd_ (Int.le_refl 0)
      replace HM := hd_ (HM.out.trans (if_neg (by simp)))
      have HM2 := hd_ (fun hr : rightW f5.data.toList = true => HM.out.trans (if_neg (by rw [hr]; simp)))
      replace HM := hd_ (fun hr => HM.out.trans (if_pos hr))
      cases hrw : rightW f5.data.toList with
      | false =>
        have HF := hd_ (HM.out hrw)
        have hno := hd_ (fun W hB => h.no (W := W) HF.out hB)
        rw [hrw] at hri
        clear HM h hrw
        go_enter Tryz.func55, Tryz.ntmps55
        go_wp2_with (first
          | (go_at_call 84; (with_reducible refine (hbi _).mono ?_); rintro e w' ⟨rfl, hw⟩; obtain rfl := hw.symm)
          | (go_at_call 83; (with_reducible refine (hth _ (hb _)).mono ?_); rintro e w1 ⟨rfl, hB1⟩; have hC1 := below_then (hb _) (hb _).size hB1; have hX1 := blk_below (blk_new w (.cells #[.int .i64 f0, .int .i64 f1, .int .i64 f2, .int .i64 f3, .int .i64 f4, .string f5] 39)) hB1; have c5 : w1.cell? ⟨w.heap.size, 5, none⟩ = some (.string f5) := blk_cell hX1 5)
          | (go_at_call 38; (with_reducible refine (hri _).mono ?_); rintro e w2 ⟨rfl, hB2⟩; have hC2 := below_then (hb _) ((hb _)).size hB2; have hX2 := blk_below (blk_new w (.cells #[.int .i64 f0, .int .i64 f1, .int .i64 f2, .int .i64 f3, .int .i64 f4, .string f5] 39)) hB2; have hW2 := blk_below hWb hC2; have c4 : w2.cell? ⟨Wb, 4, none⟩ = some (.slice A st.ev.length c) := (blk_cell hW2 4).trans rfl)
          | (at_builtin; refine Kd.R_append KdP (w0 := w5) w0.heap.size rfl (.tmp 59) (.tmp 61) 62 42 (.pointer none) 8 rfl Tryz.underlying62 info42 rfl (by decide) (by decide) (.slice A st.ev.length c) bs eb [.pointer (some ⟨eb, 0, none⟩)] (fun k => own k = 1 ∨ w5.heap.size ≤ k) (fun _ => False) rfl rfl rfl (fun _ hk => hk.elim) (fun k hk => .inr hk) (Kd.R_mono (Kd.R_below hE.out.row hC5) (fun k hk => .inl hk)) (Below.refl _ _) (Nat.le_trans h.out.base.size hC5.size) (by have := hbn.out; omega) ?_; intro v1 w6 hR6 hB6 hg6 hat6; obtain ⟨A6, c6, hv6, hl6, -⟩ := Kd.R_reads hR6; rw [List.length_append, List.length_singleton, hbn.out] at hv6; subst hv6; have hX6 := blk_grown hW5 hg6 (fun e => hvB.out e); have f4 := blk_frozen hX6 4; have c46 : w6.cell? ⟨Wb, 4, none⟩ = some (.slice A st.ev.length c) := (blk_cell hX6 4).trans rfl; have y4 : (w6.setCell ⟨Wb, 4, none⟩ (.slice A6 (st.ev.length + 1) c6)).cell? ⟨Wb, 4, none⟩ = some (.slice A6 (st.ev.length + 1) c6) := blk_cell (blk_put hX6 4 (.slice A6 (st.ev.length + 1) c6) rfl) 4))
        go_ret2
        exact hno.out _ hC2
      | true =>
        replace HM := hd_ (HM2.out hrw)
        rw [hrw] at hri
        by_cases k128 : 128 ≤ st.ev.length
        · have HF := hd_ (HM.out.trans (if_pos k128))
          have hno := hd_ (fun W hB => h.no (W := W) HF.out hB)
          have q8 : (128 : Int) ≤ st.ev.length := by omega
          clear HM HM2 h k128 hrw
          go_enter Tryz.func55, Tryz.ntmps55
          go_wp2_with (first
            | (go_at_call 84; (with_reducible refine (hbi _).mono ?_); rintro e w' ⟨rfl, hw⟩; obtain rfl := hw.symm)
            | (go_at_call 83; (with_reducible refine (hth _ (hb _)).mono ?_); rintro e w1 ⟨rfl, hB1⟩; have hC1 := below_then (hb _) (hb _).size hB1; have hX1 := blk_below (blk_new w (.cells #[.int .i64 f0, .int .i64 f1, .int .i64 f2, .int .i64 f3, .int .i64 f4, .string f5] 39)) hB1; have c5 : w1.cell? ⟨w.heap.size, 5, none⟩ = some (.string f5) := blk_cell hX1 5)
            | (go_at_call 38; (with_reducible refine (hri _).mono ?_); rintro e w2 ⟨rfl, hB2⟩; have hC2 := below_then (hb _) ((hb _)).size hB2; have hX2 := blk_below (blk_new w (.cells #[.int .i64 f0, .int .i64 f1, .int .i64 f2, .int .i64 f3, .int .i64 f4, .string f5] 39)) hB2; have hW2 := blk_below hWb hC2; have c4 : w2.cell? ⟨Wb, 4, none⟩ = some (.slice A st.ev.length c) := (blk_cell hW2 4).trans rfl)
            | (at_builtin; refine Kd.R_append KdP (w0 := w5) w0.heap.size rfl (.tmp 59) (.tmp 61) 62 42 (.pointer none) 8 rfl Tryz.underlying62 info42 rfl (by decide) (by decide) (.slice A st.ev.length c) bs eb [.pointer (some ⟨eb, 0, none⟩)] (fun k => own k = 1 ∨ w5.heap.size ≤ k) (fun _ => False) rfl rfl rfl (fun _ hk => hk.elim) (fun k hk => .inr hk) (Kd.R_mono (Kd.R_below hE.out.row hC5) (fun k hk => .inl hk)) (Below.refl _ _) (Nat.le_trans h.out.base.size hC5.size) (by have := hbn.out; omega) ?_; intro v1 w6 hR6 hB6 hg6 hat6; obtain ⟨A6, c6, hv6, hl6, -⟩ := Kd.R_reads hR6; rw [List.length_append, List.length_singleton, hbn.out] at hv6; subst hv6; have hX6 := blk_grown hW5 hg6 (fun e => hvB.out e); have f4 := blk_frozen hX6 4; have c46 : w6.cell? ⟨Wb, 4, none⟩ = some (.slice A st.ev.length c) := (blk_cell hX6 4).trans rfl; have y4 : (w6.setCell ⟨Wb, 4, none⟩ (.slice A6 (st.ev.length + 1) c6)).cell? ⟨Wb, 4, none⟩ = some (.slice A6 (st.ev.length + 1) c6) := blk_cell (blk_put hX6 4 (.slice A6 (st.ev.length + 1) c6) rfl) 4))
          go_ret2
          exact hno.out _ hC2
        · have HF := hd_ (HM.out.trans (if_neg k128))
          have q8 : ¬ (128 : Int) ≤ st.ev.length := by omega
          replace h := hd_ h
          replace hE := hd_ hE
          replace hown := hd_ hown
          replace hrw := hd_ hrw
          clear HM HM2
          go_enter Tryz.func55, Tryz.ntmps55
          go_wp2_with (first
            | (go_at_call 84; (with_reducible refine (hbi _).mono ?_); rintro e w' ⟨rfl, hw⟩; obtain rfl := hw.symm)
            | (go_at_call 83; (with_reducible refine (hth _ (hb _)).mono ?_); rintro e w1 ⟨rfl, hB1⟩; have hC1 := below_then (hb _) (hb _).size hB1; have hX1 := blk_below (blk_new w (.cells #[.int .i64 f0, .int .i64 f1, .int .i64 f2, .int .i64 f3, .int .i64 f4, .string f5] 39)) hB1; have c5 : w1.cell? ⟨w.heap.size, 5, none⟩ = some (.string f5) := blk_cell hX1 5)
            | (go_at_call 38; (with_reducible refine (hri _).mono ?_); rintro e w2 ⟨rfl, hB2⟩; have hC2 := below_then (hb _) ((hb _)).size hB2; have hX2 := blk_below (blk_new w (.cells #[.int .i64 f0, .int .i64 f1, .int .i64 f2, .int .i64 f3, .int .i64 f4, .string f5] 39)) hB2; have hW2 := blk_below hWb hC2; have c4 : w2.cell? ⟨Wb, 4, none⟩ = some (.slice A st.ev.length c) := (blk_cell hW2 4).trans rfl)
            | (at_builtin; refine Kd.R_append KdP (w0 := w5) w0.heap.size rfl (.tmp 59) (.tmp 61) 62 42 (.pointer none) 8 rfl Tryz.underlying62 info42 rfl (by decide) (by decide) (.slice A st.ev.length c) bs eb [.pointer (some ⟨eb, 0, none⟩)] (fun k => own k = 1 ∨ w5.heap.size ≤ k) (fun _ => False) rfl rfl rfl (fun _ hk => hk.elim) (fun k hk => .inr hk) (Kd.R_mono (Kd.R_below hE.out.row hC5) (fun k hk => .inl hk)) (Below.refl _ _) (Nat.le_trans h.out.base.size hC5.size) (by have := hbn.out; omega) ?_; intro v1 w6 hR6 hB6 hg6 hat6; obtain ⟨A6, c6, hv6, hl6, -⟩ := Kd.R_reads hR6; rw [List.length_append, List.length_singleton, hbn.out] at hv6; subst hv6; have hX6 := blk_grown hW5 hg6 (fun e => hvB.out e); have f4 := blk_frozen hX6 4; have c46 : w6.cell? ⟨Wb, 4, none⟩ = some (.slice A st.ev.length c) := (blk_cell hX6 4).trans rfl; have y4 : (w6.setCell ⟨Wb, 4, none⟩ (.slice A6 (st.ev.length + 1) c6)).cell? ⟨Wb, 4, none⟩ = some (.slice A6 (st.ev.length + 1) c6) := blk_cell (blk_put hX6 4 (.slice A6 (st.ev.length + 1) c6) rfl) 4))
          refine start_ (n := 18) (S := (fun W_ => W_.heap[w.heap.size]? = some (.cells #[.int .i64 f0, .int .i64 f1, .int .i64 f2, .int .i64 f3, .int .i64 f4, .string f5] 39 (0, 0)))) (ds := []) (bm 18 0) (by kernel_rfl) rfl (by kernel_rfl) hX2 (fun hHeld => ?_)
          refine pu_ 0 (some 37) (bm 18 1) ?_
          refine ta_ 1 (some 38) (bm 18 3) hHeld (fun _ hSw => (blk_cell hSw 5).trans rfl) ?_
          refine pu_ 2 (some 39) (bm 18 7) ?_
          refine pu_ 3 (some 40) (bm 18 15) ?_
          refine ta_ 4 (some 41) (bm 18 31) hHeld (fun _ hSw => (blk_cell hSw 1).trans rfl) ?_
          refine pu_ 6 (some 43) (bm 18 95) ?_
          refine ta_ 7 (some 44) (bm 18 223) hHeld (fun _ hSw => (blk_cell hSw 1).trans rfl) ?_
          refine pu_ 9 (some 46) (bm 18 735) ?_
          refine ta_ 10 (some 47) (bm 18 1759) hHeld (fun _ hSw => (blk_cell hSw 1).trans rfl) ?_
          refine one_ (i := 5) (N := (some 42)) (bm 18 1791) rfl rfl (by kernel_rfl) (by decide) (fun K hK => ?_)
          refine goes_ Tryz.func86 (by kernel_rfl) rfl #[.int .i64 f1, .int .i64 1] (by rfl) rfl rfl (by try simp only [List.map_toArray, List.map_cons, List.map_nil]; first | done | rfl) ?_
          refine (has_any f1 1 (by decide) hbt.out _).mono ?_
          rintro e w' ⟨rfl, hw⟩
          obtain rfl := hw.symm
          refine ⟨_, rfl, ?_⟩
          refine hK.out _ _ hHeld (fun hHeld => ?_)
          clear hK K
          refine norm_ (a' := ?_) ?_ ?_
          rotate_left
          · show Act.put _ (some 42) _ = _
            simp only [Act.put, List.setIfInBounds_toArray, List.set_cons_zero, List.set_cons_succ]
            rfl
          refine one_ (i := 8) (N := (some 45)) (bm 18 2047) rfl rfl (by kernel_rfl) (by decide) (fun K hK => ?_)
          refine goes_ Tryz.func86 (by kernel_rfl) rfl #[.int .i64 f1, .int .i64 2] (by rfl) rfl rfl (by try simp only [List.map_toArray, List.map_cons, List.map_nil]; first | done | rfl) ?_
          refine (has_any f1 2 (by decide) hbt.out _).mono ?_
          rintro e w' ⟨rfl, hw⟩
          obtain rfl := hw.symm
          refine ⟨_, rfl, ?_⟩
          refine hK.out _ _ hHeld (fun hHeld => ?_)
          clear hK K
          refine norm_ (a' := ?_) ?_ ?_
          rotate_left
          · show Act.put _ (some 45) _ = _
            simp only [Act.put, List.setIfInBounds_toArray, List.set_cons_zero, List.set_cons_succ]
            rfl
          refine one_ (i := 11) (N := (some 48)) (bm 18 4095) rfl rfl (by kernel_rfl) (by decide) (fun K hK => ?_)
          refine goes_ Tryz.func86 (by kernel_rfl) rfl #[.int .i64 f1, .int .i64 4] (by rfl) rfl rfl (by try simp only [List.map_toArray, List.map_cons, List.map_nil]; first | done | rfl) ?_
          refine (has_any f1 4 (by decide) hbt.out _).mono ?_
          rintro e w' ⟨rfl, hw⟩
          obtain rfl := hw.symm
          refine ⟨_, rfl, ?_⟩
          refine hK.out _ _ hHeld (fun hHeld => ?_)
          clear hK K
          refine norm_ (a' := ?_) ?_ ?_
          rotate_left
          · show Act.put _ (some 48) _ = _
            simp only [Act.put, List.setIfInBounds_toArray, List.set_cons_zero, List.set_cons_succ]
            rfl
          refine one_ (i := 12) (N := (some 49)) (bm 18 8191) rfl rfl (by kernel_rfl) (by decide) (fun K hK => ?_)
          refine goes_ Tryz.func89 (by kernel_rfl) rfl #[.string f5, .int .i64 0, .bool (hasB f1 1), .bool (hasB f1 2), .bool (hasB f1 4)] (by rfl) rfl rfl (by try simp only [List.map_toArray, List.map_cons, List.map_nil]; first | done | rfl) ?_
          refine (enew_any f5 0 _ _ _ _ hrw.out hrp.out).mono ?_
          rintro e w5 ⟨eb, rfl, hE5, hbE, hB5⟩
          refine ⟨_, rfl, ?_⟩
          refine hK.out _ _ (blk_below hHeld hB5) (fun hHeld => ?_)
          clear hK K
          refine norm_ (a' := ?_) ?_ ?_
          rotate_left
          · show Act.put _ (some 49) _ = _
            simp only [Act.put, List.setIfInBounds_toArray, List.set_cons_zero, List.set_cons_succ]
            rfl
          refine pu_ 13 (some 36) (bm 18 16383) ?_
          refine pu_ 14 (some 50) (bm 18 32767) ?_
          refine pu_ 15 (some 51) (bm 18 65535) ?_
          refine pu_ 16 (some 8) (bm 18 131071) ?_
          refine pu_ 17 (some 9) (bm 18 262143) ?_
          refine done_ (by kernel_rfl) ?_
          have hC5 := below_then (below_drew hC2) (below_drew hC2).size hB5
          have hW5 := blk_below hWb hC5
          have c45 : w5.cell? ⟨Wb, 4, none⟩ = some (.slice A st.ev.length c) := (blk_cell hW5 4).trans rfl
          go_wp2_with (first
            | (go_at_call 84; (with_reducible refine (hbi _).mono ?_); rintro e w' ⟨rfl, hw⟩; obtain rfl := hw.symm)
            | (go_at_call 83; (with_reducible refine (hth _ (hb _)).mono ?_); rintro e w1 ⟨rfl, hB1⟩; have hC1 := below_then (hb _) (hb _).size hB1; have hX1 := blk_below (blk_new w (.cells #[.int .i64 f0, .int .i64 f1, .int .i64 f2, .int .i64 f3, .int .i64 f4, .string f5] 39)) hB1; have c5 : w1.cell? ⟨w.heap.size, 5, none⟩ = some (.string f5) := blk_cell hX1 5)
            | (go_at_call 38; (with_reducible refine (hri _).mono ?_); rintro e w2 ⟨rfl, hB2⟩; have hC2 := below_then (hb _) ((hb _)).size hB2; have hX2 := blk_below (blk_new w (.cells #[.int .i64 f0, .int .i64 f1, .int .i64 f2, .int .i64 f3, .int .i64 f4, .string f5] 39)) hB2; have hW2 := blk_below hWb hC2; have c4 : w2.cell? ⟨Wb, 4, none⟩ = some (.slice A st.ev.length c) := (blk_cell hW2 4).trans rfl)
            | (at_builtin; refine Kd.R_append KdP (w0 := w5) w0.heap.size rfl (.tmp 59) (.tmp 61) 62 42 (.pointer none) 8 rfl Tryz.underlying62 info42 rfl (by decide) (by decide) (.slice A st.ev.length c) bs eb [.pointer (some ⟨eb, 0, none⟩)] (fun k => own k = 1 ∨ w5.heap.size ≤ k) (fun _ => False) rfl rfl rfl (fun _ hk => hk.elim) (fun k hk => .inr hk) (Kd.R_mono (Kd.R_below hE.out.row hC5) (fun k hk => .inl hk)) (Below.refl _ _) (Nat.le_trans h.out.base.size hC5.size) (by have := hbn.out; omega) ?_; intro v1 w6 hR6 hB6 hg6 hat6; obtain ⟨A6, c6, hv6, hl6, -⟩ := Kd.R_reads hR6; rw [List.length_append, List.length_singleton, hbn.out] at hv6; subst hv6; have hX6 := blk_grown hW5 hg6 (fun e => hvB.out e); have f4 := blk_frozen hX6 4; have c46 : w6.cell? ⟨Wb, 4, none⟩ = some (.slice A st.ev.length c) := (blk_cell hX6 4).trans rfl; have y4 : (w6.setCell ⟨Wb, 4, none⟩ (.slice A6 (st.ev.length + 1) c6)).cell? ⟨Wb, 4, none⟩ = some (.slice A6 (st.ev.length + 1) c6) := blk_cell (blk_put hX6 4 (.slice A6 (st.ev.length + 1) c6) rfl) 4))
          go_ret2
          exact WoC.yes (WoStep.same (Below.refl _ _)) (h.out.pushE hC5 hWb hE.out hown.out hE5 (Nat.le_trans (below_drew hC2).size hbE) rfl (by omega) hR6 hB6 hg6 hat6) HF.out
    · have q0 : (rel != 0) = true := by simp [k0]
      cases hn : isN st.l rel with
      | false =>
        have HF := hd_ (HM.out.trans (if_pos (by rw [hn, q0]; rfl)))
        have hno := hd_ (fun W hB => h.no (W := W) HF.out hB)
        rw [hn] at hth
        clear HM h hE hown hWb hbt hbn hvB k0 hn
        go_enter Tryz.func55, Tryz.ntmps55
        go_wp2_with (first
          | (go_at_call 84; (with_reducible refine (hbi _).mono ?_); rintro e w' ⟨rfl, hw⟩; obtain rfl := hw.symm)
          | (go_at_call 83; (with_reducible refine (hth _ (hb _)).mono ?_); rintro e w1 ⟨rfl, hB1⟩; have hC1 := below_then (hb _) (hb _).size hB1))
        go_ret2
        exact hno.out _ hC1
      | true =>
        have hrp := hd_ (show 0 ≤ rel by unfold isN nodeF at hn; split at hn <;> first | omega | cases hn)
        replace HM := hd_ (HM.out.trans (if_neg (by rw [hn]; simp)))
        have HM2 := hd_ (fun hr : rightW f5.data.toList = true => HM.out.trans (if_neg (by rw [hr]; simp)))
        replace HM := hd_ (fun hr => HM.out.trans (if_pos hr))
        rw [hn] at hth
        clear k0 hn
        cases hrw : rightW f5.data.toList with
        | false =>
          have HF := hd_ (HM.out hrw)
          have hno := hd_ (fun W hB => h.no (W := W) HF.out hB)
          rw [hrw] at hri
          clear HM h hrw
          go_enter Tryz.func55, Tryz.ntmps55
          go_wp2_with (first
            | (go_at_call 84; (with_reducible refine (hbi _).mono ?_); rintro e w' ⟨rfl, hw⟩; obtain rfl := hw.symm)
            | (go_at_call 83; (with_reducible refine (hth _ (hb _)).mono ?_); rintro e w1 ⟨rfl, hB1⟩; have hC1 := below_then (hb _) (hb _).size hB1; have hX1 := blk_below (blk_new w (.cells #[.int .i64 f0, .int .i64 f1, .int .i64 f2, .int .i64 f3, .int .i64 f4, .string f5] 39)) hB1; have c5 : w1.cell? ⟨w.heap.size, 5, none⟩ = some (.string f5) := blk_cell hX1 5)
            | (go_at_call 38; (with_reducible refine (hri _).mono ?_); rintro e w2 ⟨rfl, hB2⟩; have hC2 := below_then hC1 (hC1).size hB2; have hX2 := blk_below hX1 hB2; have hW2 := blk_below hWb hC2; have c4 : w2.cell? ⟨Wb, 4, none⟩ = some (.slice A st.ev.length c) := (blk_cell hW2 4).trans rfl)
            | (at_builtin; refine Kd.R_append KdP (w0 := w5) w0.heap.size rfl (.tmp 59) (.tmp 61) 62 42 (.pointer none) 8 rfl Tryz.underlying62 info42 rfl (by decide) (by decide) (.slice A st.ev.length c) bs eb [.pointer (some ⟨eb, 0, none⟩)] (fun k => own k = 1 ∨ w5.heap.size ≤ k) (fun _ => False) rfl rfl rfl (fun _ hk => hk.elim) (fun k hk => .inr hk) (Kd.R_mono (Kd.R_below hE.out.row hC5) (fun k hk => .inl hk)) (Below.refl _ _) (Nat.le_trans h.out.base.size hC5.size) (by have := hbn.out; omega) ?_; intro v1 w6 hR6 hB6 hg6 hat6; obtain ⟨A6, c6, hv6, hl6, -⟩ := Kd.R_reads hR6; rw [List.length_append, List.length_singleton, hbn.out] at hv6; subst hv6; have hX6 := blk_grown hW5 hg6 (fun e => hvB.out e); have f4 := blk_frozen hX6 4; have c46 : w6.cell? ⟨Wb, 4, none⟩ = some (.slice A st.ev.length c) := (blk_cell hX6 4).trans rfl; have y4 : (w6.setCell ⟨Wb, 4, none⟩ (.slice A6 (st.ev.length + 1) c6)).cell? ⟨Wb, 4, none⟩ = some (.slice A6 (st.ev.length + 1) c6) := blk_cell (blk_put hX6 4 (.slice A6 (st.ev.length + 1) c6) rfl) 4))
          go_ret2
          exact hno.out _ hC2
        | true =>
          replace HM := hd_ (HM2.out hrw)
          rw [hrw] at hri
          by_cases k128 : 128 ≤ st.ev.length
          · have HF := hd_ (HM.out.trans (if_pos k128))
            have hno := hd_ (fun W hB => h.no (W := W) HF.out hB)
            have q8 : (128 : Int) ≤ st.ev.length := by omega
            clear HM HM2 h k128 hrw
            go_enter Tryz.func55, Tryz.ntmps55
            go_wp2_with (first
              | (go_at_call 84; (with_reducible refine (hbi _).mono ?_); rintro e w' ⟨rfl, hw⟩; obtain rfl := hw.symm)
              | (go_at_call 83; (with_reducible refine (hth _ (hb _)).mono ?_); rintro e w1 ⟨rfl, hB1⟩; have hC1 := below_then (hb _) (hb _).size hB1; have hX1 := blk_below (blk_new w (.cells #[.int .i64 f0, .int .i64 f1, .int .i64 f2, .int .i64 f3, .int .i64 f4, .string f5] 39)) hB1; have c5 : w1.cell? ⟨w.heap.size, 5, none⟩ = some (.string f5) := blk_cell hX1 5)
              | (go_at_call 38; (with_reducible refine (hri _).mono ?_); rintro e w2 ⟨rfl, hB2⟩; have hC2 := below_then hC1 (hC1).size hB2; have hX2 := blk_below hX1 hB2; have hW2 := blk_below hWb hC2; have c4 : w2.cell? ⟨Wb, 4, none⟩ = some (.slice A st.ev.length c) := (blk_cell hW2 4).trans rfl)
              | (at_builtin; refine Kd.R_append KdP (w0 := w5) w0.heap.size rfl (.tmp 59) (.tmp 61) 62 42 (.pointer none) 8 rfl Tryz.underlying62 info42 rfl (by decide) (by decide) (.slice A st.ev.length c) bs eb [.pointer (some ⟨eb, 0, none⟩)] (fun k => own k = 1 ∨ w5.heap.size ≤ k) (fun _ => False) rfl rfl rfl (fun _ hk => hk.elim) (fun k hk => .inr hk) (Kd.R_mono (Kd.R_below hE.out.row hC5) (fun k hk => .inl hk)) (Below.refl _ _) (Nat.le_trans h.out.base.size hC5.size) (by have := hbn.out; omega) ?_; intro v1 w6 hR6 hB6 hg6 hat6; obtain ⟨A6, c6, hv6, hl6, -⟩ := Kd.R_reads hR6; rw [List.length_append, List.length_singleton, hbn.out] at hv6; subst hv6; have hX6 := blk_grown hW5 hg6 (fun e => hvB.out e); have f4 := blk_frozen hX6 4; have c46 : w6.cell? ⟨Wb, 4, none⟩ = some (.slice A st.ev.length c) := (blk_cell hX6 4).trans rfl; have y4 : (w6.setCell ⟨Wb, 4, none⟩ (.slice A6 (st.ev.length + 1) c6)).cell? ⟨Wb, 4, none⟩ = some (.slice A6 (st.ev.length + 1) c6) := blk_cell (blk_put hX6 4 (.slice A6 (st.ev.length + 1) c6) rfl) 4))
            go_ret2
            exact hno.out _ hC2
          · have HF := hd_ (HM.out.trans (if_neg k128))
            have q8 : ¬ (128 : Int) ≤ st.ev.length := by omega
            replace h := hd_ h
            replace hE := hd_ hE
            replace hown := hd_ hown
            replace hrw := hd_ hrw
            clear HM HM2
            go_enter Tryz.func55, Tryz.ntmps55
            go_wp2_with (first
              | (go_at_call 84; (with_reducible refine (hbi _).mono ?_); rintro e w' ⟨rfl, hw⟩; obtain rfl := hw.symm)
              | (go_at_call 83; (with_reducible refine (hth _ (hb _)).mono ?_); rintro e w1 ⟨rfl, hB1⟩; have hC1 := below_then (hb _) (hb _).size hB1; have hX1 := blk_below (blk_new w (.cells #[.int .i64 f0, .int .i64 f1, .int .i64 f2, .int .i64 f3, .int .i64 f4, .string f5] 39)) hB1; have c5 : w1.cell? ⟨w.heap.size, 5, none⟩ = some (.string f5) := blk_cell hX1 5)
              | (go_at_call 38; (with_reducible refine (hri _).mono ?_); rintro e w2 ⟨rfl, hB2⟩; have hC2 := below_then hC1 (hC1).size hB2; have hX2 := blk_below hX1 hB2; have hW2 := blk_below hWb hC2; have c4 : w2.cell? ⟨Wb, 4, none⟩ = some (.slice A st.ev.length c) := (blk_cell hW2 4).trans rfl)
              | (at_builtin; refine Kd.R_append KdP (w0 := w5) w0.heap.size rfl (.tmp 59) (.tmp 61) 62 42 (.pointer none) 8 rfl Tryz.underlying62 info42 rfl (by decide) (by decide) (.slice A st.ev.length c) bs eb [.pointer (some ⟨eb, 0, none⟩)] (fun k => own k = 1 ∨ w5.heap.size ≤ k) (fun _ => False) rfl rfl rfl (fun _ hk => hk.elim) (fun k hk => .inr hk) (Kd.R_mono (Kd.R_below hE.out.row hC5) (fun k hk => .inl hk)) (Below.refl _ _) (Nat.le_trans h.out.base.size hC5.size) (by have := hbn.out; omega) ?_; intro v1 w6 hR6 hB6 hg6 hat6; obtain ⟨A6, c6, hv6, hl6, -⟩ := Kd.R_reads hR6; rw [List.length_append, List.length_singleton, hbn.out] at hv6; subst hv6; have hX6 := blk_grown hW5 hg6 (fun e => hvB.out e); have f4 := blk_frozen hX6 4; have c46 : w6.cell? ⟨Wb, 4, none⟩ = some (.slice A st.ev.length c) := (blk_cell hX6 4).trans rfl; have y4 : (w6.setCell ⟨Wb, 4, none⟩ (.slice A6 (st.ev.length + 1) c6)).cell? ⟨Wb, 4, none⟩ = some (.slice A6 (st.ev.length + 1) c6) := blk_cell (blk_put hX6 4 (.slice A6 (st.ev.length + 1) c6) rfl) 4))
            refine start_ (n := 18) (S := (fun W_ => W_.heap[w.heap.size]? = some (.cells #[.int .i64 f0, .int .i64 f1, .int .i64 f2, .int .i64 f3, .int .i64 f4, .string f5] 39 (0, 0)))) (ds := []) (bm 18 0) (by kernel_rfl) rfl (by kernel_rfl) hX2 (fun hHeld => ?_)
            refine pu_ 0 (some 37) (bm 18 1) ?_
            refine ta_ 1 (some 38) (bm 18 3) hHeld (fun _ hSw => (blk_cell hSw 5).trans rfl) ?_
            refine pu_ 2 (some 39) (bm 18 7) ?_
            refine pu_ 3 (some 40) (bm 18 15) ?_
            refine ta_ 4 (some 41) (bm 18 31) hHeld (fun _ hSw => (blk_cell hSw 1).trans rfl) ?_
            refine pu_ 6 (some 43) (bm 18 95) ?_
            refine ta_ 7 (some 44) (bm 18 223) hHeld (fun _ hSw => (blk_cell hSw 1).trans rfl) ?_
            refine pu_ 9 (some 46) (bm 18 735) ?_
            refine ta_ 10 (some 47) (bm 18 1759) hHeld (fun _ hSw => (blk_cell hSw 1).trans rfl) ?_
            refine one_ (i := 5) (N := (some 42)) (bm 18 1791) rfl rfl (by kernel_rfl) (by decide) (fun K hK => ?_)
            refine goes_ Tryz.func86 (by kernel_rfl) rfl #[.int .i64 f1, .int .i64 1] (by rfl) rfl rfl (by try simp only [List.map_toArray, List.map_cons, List.map_nil]; first | done | rfl) ?_
            refine (has_any f1 1 (by decide) hbt.out _).mono ?_
            rintro e w' ⟨rfl, hw⟩
            obtain rfl := hw.symm
            refine ⟨_, rfl, ?_⟩
            refine hK.out _ _ hHeld (fun hHeld => ?_)
            clear hK K
            refine norm_ (a' := ?_) ?_ ?_
            rotate_left
            · show Act.put _ (some 42) _ = _
              simp only [Act.put, List.setIfInBounds_toArray, List.set_cons_zero, List.set_cons_succ]
              rfl
            refine one_ (i := 8) (N := (some 45)) (bm 18 2047) rfl rfl (by kernel_rfl) (by decide) (fun K hK => ?_)
            refine goes_ Tryz.func86 (by kernel_rfl) rfl #[.int .i64 f1, .int .i64 2] (by rfl) rfl rfl (by try simp only [List.map_toArray, List.map_cons, List.map_nil]; first | done | rfl) ?_
            refine (has_any f1 2 (by decide) hbt.out _).mono ?_
            rintro e w' ⟨rfl, hw⟩
            obtain rfl := hw.symm
            refine ⟨_, rfl, ?_⟩
            refine hK.out _ _ hHeld (fun hHeld => ?_)
            clear hK K
            refine norm_ (a' := ?_) ?_ ?_
            rotate_left
            · show Act.put _ (some 45) _ = _
              simp only [Act.put, List.setIfInBounds_toArray, List.set_cons_zero, List.set_cons_succ]
              rfl
            refine one_ (i := 11) (N := (some 48)) (bm 18 4095) rfl rfl (by kernel_rfl) (by decide) (fun K hK => ?_)
            refine goes_ Tryz.func86 (by kernel_rfl) rfl #[.int .i64 f1, .int .i64 4] (by rfl) rfl rfl (by try simp only [List.map_toArray, List.map_cons, List.map_nil]; first | done | rfl) ?_
            refine (has_any f1 4 (by decide) hbt.out _).mono ?_
            rintro e w' ⟨rfl, hw⟩
            obtain rfl := hw.symm
            refine ⟨_, rfl, ?_⟩
            refine hK.out _ _ hHeld (fun hHeld => ?_)
            clear hK K
            refine norm_ (a' := ?_) ?_ ?_
            rotate_left
            · show Act.put _ (some 48) _ = _
              simp only [Act.put, List.setIfInBounds_toArray, List.set_cons_zero, List.set_cons_succ]
              rfl
            refine one_ (i := 12) (N := (some 49)) (bm 18 8191) rfl rfl (by kernel_rfl) (by decide) (fun K hK => ?_)
            refine goes_ Tryz.func89 (by kernel_rfl) rfl #[.string f5, .int .i64 rel, .bool (hasB f1 1), .bool (hasB f1 2), .bool (hasB f1 4)] (by rfl) rfl rfl (by try simp only [List.map_toArray, List.map_cons, List.map_nil]; first | done | rfl) ?_
            refine (enew_any f5 rel _ _ _ _ hrw.out hrp.out).mono ?_
            rintro e w5 ⟨eb, rfl, hE5, hbE, hB5⟩
            refine ⟨_, rfl, ?_⟩
            refine hK.out _ _ (blk_below hHeld hB5) (fun hHeld => ?_)
            clear hK K
            refine norm_ (a' := ?_) ?_ ?_
            rotate_left
            · show Act.put _ (some 49) _ = _
              simp only [Act.put, List.setIfInBounds_toArray, List.set_cons_zero, List.set_cons_succ]
              rfl
            refine pu_ 13 (some 36) (bm 18 16383) ?_
            refine pu_ 14 (some 50) (bm 18 32767) ?_
            refine pu_ 15 (some 51) (bm 18 65535) ?_
            refine pu_ 16 (some 8) (bm 18 131071) ?_
            refine pu_ 17 (some 9) (bm 18 262143) ?_
            refine done_ (by kernel_rfl) ?_
            have hC5 := below_then (below_drew hC2) (below_drew hC2).size hB5
            have hW5 := blk_below hWb hC5
            have c45 : w5.cell? ⟨Wb, 4, none⟩ = some (.slice A st.ev.length c) := (blk_cell hW5 4).trans rfl
            go_wp2_with (first
              | (go_at_call 84; (with_reducible refine (hbi _).mono ?_); rintro e w' ⟨rfl, hw⟩; obtain rfl := hw.symm)
              | (go_at_call 83; (with_reducible refine (hth _ (hb _)).mono ?_); rintro e w1 ⟨rfl, hB1⟩; have hC1 := below_then (hb _) (hb _).size hB1; have hX1 := blk_below (blk_new w (.cells #[.int .i64 f0, .int .i64 f1, .int .i64 f2, .int .i64 f3, .int .i64 f4, .string f5] 39)) hB1; have c5 : w1.cell? ⟨w.heap.size, 5, none⟩ = some (.string f5) := blk_cell hX1 5)
              | (go_at_call 38; (with_reducible refine (hri _).mono ?_); rintro e w2 ⟨rfl, hB2⟩; have hC2 := below_then hC1 (hC1).size hB2; have hX2 := blk_below hX1 hB2; have hW2 := blk_below hWb hC2; have c4 : w2.cell? ⟨Wb, 4, none⟩ = some (.slice A st.ev.length c) := (blk_cell hW2 4).trans rfl)
              | (at_builtin; refine Kd.R_append KdP (w0 := w5) w0.heap.size rfl (.tmp 59) (.tmp 61) 62 42 (.pointer none) 8 rfl Tryz.underlying62 info42 rfl (by decide) (by decide) (.slice A st.ev.length c) bs eb [.pointer (some ⟨eb, 0, none⟩)] (fun k => own k = 1 ∨ w5.heap.size ≤ k) (fun _ => False) rfl rfl rfl (fun _ hk => hk.elim) (fun k hk => .inr hk) (Kd.R_mono (Kd.R_below hE.out.row hC5) (fun k hk => .inl hk)) (Below.refl _ _) (Nat.le_trans h.out.base.size hC5.size) (by have := hbn.out; omega) ?_; intro v1 w6 hR6 hB6 hg6 hat6; obtain ⟨A6, c6, hv6, hl6, -⟩ := Kd.R_reads hR6; rw [List.length_append, List.length_singleton, hbn.out] at hv6; subst hv6; have hX6 := blk_grown hW5 hg6 (fun e => hvB.out e); have f4 := blk_frozen hX6 4; have c46 : w6.cell? ⟨Wb, 4, none⟩ = some (.slice A st.ev.length c) := (blk_cell hX6 4).trans rfl; have y4 : (w6.setCell ⟨Wb, 4, none⟩ (.slice A6 (st.ev.length + 1) c6)).cell? ⟨Wb, 4, none⟩ = some (.slice A6 (st.ev.length + 1) c6) := blk_cell (blk_put hX6 4 (.slice A6 (st.ev.length + 1) c6) rfl) 4))
            go_ret2
            exact WoC.yes (WoStep.same (Below.refl _ _)) (h.out.pushE hC5 hWb hE.out hown.out hE5 (Nat.le_trans (below_drew hC2).size hbE) rfl (by omega) hR6 hB6 hg6 hat6) HF.out
end Go.Proofs.YtgopddjmmoohdaaGreatDoor

/- world: abort. -/
set_option linter.unusedSimpArgs false
set_option linter.unusedVariables false
set_option maxRecDepth 100000
set_option maxHeartbeats 3200000
namespace Go.Proofs.YtgopddjmmoohdaaGreatDoor
open Go.RowKit Go.Proofs.YtgopddjmmoohdaaGreatDoorW.PrintWords Go.Proofs.YtgopddjmmoohdaaGreatDoorW.PrintLast Go.Proofs.YtgopddjmmoohdaaGreatDoor.PPlaySilent

/-- The tags are few. -/
def SgOk (g : List Sg) : Prop := (∀ s ∈ g, s.tags.length ≤ 100000) ∧ (g.map (fun s => s.tags.length)).sum ≤ 100000000
theorem SgOk.sl {g : List Sg} {sl : List SigS} (h : SgOk g) (e : sl.map SigS.abs = g) : (∀ s ∈ sl, s.tags.length ≤ 100000) ∧ tsum sl ≤ 100000000 := by
  subst e
  refine ⟨fun s hs => h.1 s.abs (List.mem_map_of_mem hs), ?_⟩
  have := h.2
  rwa [List.map_map] at this
theorem SgOk.of {sl : List SigS} (h : ∀ s ∈ sl, s.tags.length ≤ 100000) (h2 : tsum sl ≤ 100000000) : SgOk (sl.map SigS.abs) := by
  refine ⟨fun s hs => ?_, by rw [List.map_map]; exact h2⟩
  obtain ⟨t, ht, rfl⟩ := List.mem_map.1 hs
  exact h t ht
/-- The lists of the tags are removed, and counted. -/
def killStep (p : List Ls × Nat) (t : Int) : List Ls × Nat := ((killR p.1 t).1, if (killR p.1 t).2 = true then p.2 + 1 else p.2)
/-- abort. -/
def abortW (st : St) (id : Int) : St × Int × Int := if id < 1 ∨ (st.sg.length : Int) < id then (st, 0, 1) else ({ st with sg := (giveF st.sg.length st.sg id).1, ls := ((giveF st.sg.length st.sg id).2.foldl killStep (st.ls, 0)).1 }, (((giveF st.sg.length st.sg id).2.foldl killStep (st.ls, 0)).2 : Int), 0)
theorem foldl_next {α β : Type} {f : β → α → β} {xs : List α} {j : Nat} {x : α} {b : β} (h : xs[j]? = some x) : (xs.drop j).foldl f b = (xs.drop (j + 1)).foldl f (f b x) := by
  obtain ⟨hj, hx⟩ := List.getElem?_eq_some_iff.1 h
  rw [List.drop_eq_getElem_cons hj, hx, List.foldl_cons]
theorem abort_any {cl : Nat → Nat} {w0 w : World} {Wb F L B calls : Nat} {st : St} (h : WoC cl w0 w Wb F L B calls st) (hT : SgOk st.sg) (id : Int) :
    Calls Tryz.prog 52 #[.pointer (some ⟨Wb, 0, none⟩), .int .i64 id] w (WoPost cl w0 w Wb F L B calls (abortW st id)) := by
  obtain ⟨v, hWb⟩ := h.wb
  have z2 := (blk_cell hWb 2).trans rfl
  obtain ⟨own, sl, hB, hsl, hown⟩ := h.bo
  obtain ⟨ht, hsum⟩ := hT.sl hsl
  have hbl := blen_any own w0 w B sl hB
  have hgv := bgive_any own w0 w B id sl hB ht hsum
  have hsll : sl.length = st.sg.length := by rw [← hsl, List.length_map]
  unfold GivePost at hgv
  rw [hsl, hsll] at hgv
  rw [hsll] at hbl
  have HM := hd_ (show abortW st id = if id < 1 ∨ (st.sg.length : Int) < id then (st, 0, 1) else ({ st with sg := (giveF st.sg.length st.sg id).1, ls := ((giveF st.sg.length st.sg id).2.foldl killStep (st.ls, 0)).1 }, (((giveF st.sg.length st.sg id).2.foldl killStep (st.ls, 0)).2 : Int), 0) from rfl)
  generalize abortW st id = ar at *
  by_cases k1 : id < 1
  · have HF := hd_ (HM.out.trans (if_pos (.inl k1)))
    have hno := hd_ (fun W hB => h.no (W := W) HF.out hB)
    clear HM h hT hB hgv hbl hsl hsll
    go_enter Tryz.func52, Tryz.ntmps52
    go_wp2
    go_ret2
    exact hno.out _ (Below.refl _ _)
  · by_cases k2 : (st.sg.length : Int) < id
    · have HF := hd_ (HM.out.trans (if_pos (.inr k2)))
      have hno := hd_ (fun W hB => h.no (W := W) HF.out hB)
      clear HM h hT hB hgv hsl hsll
      go_enter Tryz.func52, Tryz.ntmps52
      go_wp2_with (go_at_call 80; (with_reducible refine hbl.mono ?_); rintro e w1 ⟨rfl, hw⟩; obtain rfl := hw.symm)
      go_ret2
      exact hno.out _ (Below.refl _ _)
    · have HF := hd_ (HM.out.trans (if_neg (by omega)))
      clear HM
      generalize hg : giveF st.sg.length st.sg id = gv at *
      obtain ⟨g1, tags⟩ := gv
      dsimp only at hgv HF
      go_enter Tryz.func52, Tryz.ntmps52
      go_wp2_with (first
        | (go_at_call 80; (with_reducible refine hbl.mono ?_); rintro e w1 ⟨rfl, hw⟩; obtain rfl := hw.symm)
        | (go_at_call 81; (with_reducible refine hgv.mono ?_); rintro e w1 ⟨A, c, r, rfl, hc, -, hR, sl', hB1, hsl1, -, ht1, hsum1, hS1, hts⟩; have h2 := h.setB hown hB1 ⟨hS1, fun k hk => .inl hk⟩; rw [hsl1] at h2; have hR2 := Kd.R_mono (ok' := fun k => clX cl 3 w.heap.size w1.heap.size k = 3) (Kd.R_tight rfl hR) (fun k hk => clX_new (Kd.R_base hR k hk.symm) (Kd.R_lt hR k hk.symm))))
      generalize clX cl 3 w.heap.size w1.heap.size = cl1 at *
      obtain ⟨h2, hs2⟩ := h2
      replace h := hd_ h
      replace hs2 := hd_ hs2
      have hln : tags.length ≤ 100000000 := Nat.le_trans hts hsum
      clear hR hB1 ht1 hsum1 hS1 hT hB hgv hbl hsl hsll hsl1 ht hsum hg
      go_loopw [8, 10, 35] (fun cv _ iv wr => ∃ (j n : Nat) (lj : List Ls) (clr : Nat → Nat), j ≤ tags.length ∧ n ≤ j ∧ iv = .int .i64 j ∧ cv = .int .i64 n ∧ Hd (tags.foldl killStep (st.ls, 0) = (tags.drop j).foldl killStep (lj, n)) ∧ Hd (WoC clr w0 wr Wb F L B calls { st with sg := g1, ls := lj }) ∧ Hd (WoStep cl clr w wr) ∧ (Kd.int .i64).R 3 wr w.heap.size (fun k => clr k = 3) (.slice A tags.length c) tags) (fun _ _ iv _ => tags.length - (intOf iv).toNat)
      case atStart => exact ⟨0, 0, st.ls, cl1, Nat.zero_le _, Nat.le_refl _, rfl, rfl, ⟨rfl⟩, ⟨h2⟩, hs2, hR2⟩
      case round =>
        obtain ⟨j, n, lj, clr, hj, hn, rfl, rfl, hJ, hr, hsr, hRr⟩ := hrel
        by_cases hlt : j < tags.length
        · obtain ⟨x, hx⟩ : ∃ x, tags[j]? = some x := get_some hlt
          obtain ⟨A', c', hv', hc', hC'⟩ := Kd.R_reads hRr
          cases hv'
          obtain ⟨b1, o1, rfl, hcell⟩ := ints_at hC' hx
          obtain ⟨vr, hWr⟩ := hr.out.wb
          have z1 := (blk_cell hWr 1).trans rfl
          obtain ⟨ownl, psl, hL, hownl⟩ := hr.out.li
          have hki := kill_any ownl w0 wr L psl lj x hL
          have HT := hd_ (hJ.out.trans (foldl_next (f := killStep) hx))
          have hstep := hd_ (fun (r : List Ls × Bool) w' own' (hL' : LiC own' w0 w' L psl r.1) (hS' : LiStep ownl own' wr w') => by
            obtain ⟨h3, s3⟩ := hr.out.setL hownl hL' hS'
            exact (⟨⟨h3⟩, ⟨hsr.out.trans s3⟩, Kd.R_mono (R_ste hRr (hS'.ste.mono (P' := fun k => clr k = 2) (fun k hk => .inl (hownl k hk))) (fun k hk => by rw [hk]; decide)) (fun k hk => hr.out.clo hk (by decide))⟩ : Hd (WoC (clX clr 2 wr.heap.size w'.heap.size) w0 w' Wb F L B calls { st with sg := g1, ls := r.1 }) ∧ Hd (WoStep cl (clX clr 2 wr.heap.size w'.heap.size) w w') ∧ (Kd.int .i64).R 3 w' w.heap.size (fun k => clX clr 2 wr.heap.size w'.heap.size k = 3) (.slice (some ⟨b1, o1, none⟩) tags.length c) tags))
          have hks := hd_ (show killStep (lj, n) x = ((killR lj x).1, if (killR lj x).2 = true then n + 1 else n) from rfl)
          clear hx hL hRr hC' hWr hJ hc'
          generalize killR lj x = kr at *
          obtain ⟨lk, rb⟩ := kr
          unfold KillPost at hki
          dsimp only at hki hks
          cases rb with
          | true =>
            go_wp2_with (go_at_call 82; (with_reducible refine hki.mono ?_); rintro e w3 ⟨rfl, own', hL', hS'⟩)
            go_round
            case rel =>
              obtain ⟨h3, h4, h5⟩ := hstep.out (lk, true) w3 own' hL' hS'
              exact ⟨j + 1, n + 1, lk, _, by omega, by omega, by go_num, by go_num, ⟨by rw [HT.out, hks.out]; rfl⟩, h3, h4, h5⟩
            case measure => simp [intOf]; omega
          | false =>
            go_wp2_with (go_at_call 82; (with_reducible refine hki.mono ?_); rintro e w3 ⟨rfl, own', hL', hS'⟩)
            go_round
            case rel =>
              obtain ⟨h3, h4, h5⟩ := hstep.out (lk, false) w3 own' hL' hS'
              exact ⟨j + 1, n, lk, _, by omega, by omega, by go_num, rfl, ⟨by rw [HT.out, hks.out]; rfl⟩, h3, h4, h5⟩
            case measure => simp [intOf]; omega
        · have HK := hd_ (show tags.foldl killStep (st.ls, 0) = (lj, n) by have := hJ.out; rwa [List.drop_of_length_le (by omega)] at this)
          rw [HK.out] at HF
          have hout := hd_ (show WoPost cl w0 w Wb F L B calls ar (.returned (.tuple #[.int .i64 n, .int .i64 0])) wr from WoC.yes hsr.out ⟨hr.out, WoStep.same (Below.refl _ _)⟩ HF.out)
          clear hJ hRr HK
          go_wp2
          go_ret2
          exact hout.out
end Go.Proofs.YtgopddjmmoohdaaGreatDoor
