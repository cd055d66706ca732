-- PRINTED BY print.sh 35421559b90ae4d0a3588c463048766b98c2df88dd9212a6774a882060cdf62d: not written by this session
import Derived.Test.YtmjedjhgomlfiaaPAuditLeaksx0
import Derived.Test.YtmjedjhgomlfiaaPAuditLeaksx2
namespace Go.Proofs.Ytmjedjhgomlfiaa.PAuditLeaks
open Go.RowKit Go.Proofs.YtmjedjhgomlfiaaW.PrintWords Go.Proofs.YtmjedjhgomlfiaaW.PrintLast Go.Proofs.YtmjedjhgomlfiaaW.PrintMore
attribute [local go_sem] max2_int min2_int max_two min_two max_three min_three max_four min_four   -- for this text's walks alone
set_option linter.unusedVariables false
set_option linter.unusedSimpArgs false

/-! ### towncrierref25_Leaks: function 21 -/
def towncrierref25_Leaks.l0 : Nat → List (S61) → List Int → List Int → Int → Int → Int → Int → Int → Int → Int → Int → List Int → Bool → Bool → Bool → Bool → Bool → Bool → Bool → Bool → Int → Int → Int → Option (List Int)
  | 0, _, _, _, _, _, _, _, _, _, _, _, _, _, _, _, _, _, _, _, _, _, _, _ => none
  | k + 1, x0, x5, x6, x7, x146000, x146001, x146002, x146003, x146004, x146005, x146006, x146007, x146008, x146009, x146010, x146011, x146012, x146013, x146014, x146015, x146016, x146017, x146018 => if x7 < (x6.length : Int) then (if 0 ≤ x7 then ((towncrierref08_Hidden.f k x0 (rd x6 x7) x146003).bind fun t153 => (if t153 = true then ((towncrierref01_Has.f k x5 (rd x6 x7)).bind fun t155 => (if t155 = true then (towncrierref25_Leaks.l0 k x0 x5 x6 (wrap64 (x7 + 1)) x146000 x146001 x146002 x146003 x146004 x146005 x146006 x146007 x146008 x146009 x146010 x146011 x146012 x146013 x146014 x146015 x146016 x146017 x146018) else (if x5.length < 17592186044416 then (towncrierref25_Leaks.l0 k x0 (x5 ++ [rd x6 x7]) x6 (wrap64 (x7 + 1)) x146000 x146001 x146002 x146003 x146004 x146005 x146006 x146007 x146008 x146009 x146010 x146011 x146012 x146013 x146014 x146015 x146016 x146017 x146018) else (none)))) else (towncrierref25_Leaks.l0 k x0 x5 x6 (wrap64 (x7 + 1)) x146000 x146001 x146002 x146003 x146004 x146005 x146006 x146007 x146008 x146009 x146010 x146011 x146012 x146013 x146014 x146015 x146016 x146017 x146018))) else (none)) else (some x5)
def towncrierref25_Leaks.f (k : Nat) (l0 : List (S61)) (a1_0 : Int) (a1_1 : Int) (a1_2 : Int) (a1_3 : Int) (a1_4 : Int) (a1_5 : Int) (a1_6 : Int) (l1_7 : List Int) (a1_8 : Bool) (a1_9 : Bool) (a1_10 : Bool) (a1_11 : Bool) (a1_12 : Bool) (a1_13 : Bool) (a1_14 : Bool) (a1_15 : Bool) (a1_16 : Int) (a1_17 : Int) (a1_18 : Int) : Option (List Int) := (some (([a1_5, a1_6] : List Int) : List Int)).bind fun y146 => (if y146.length + l1_7.length < 17592186044416 then (towncrierref25_Leaks.l0 k l0 ([] : List Int) (y146 ++ l1_7) 0 a1_0 a1_1 a1_2 a1_3 a1_4 a1_5 a1_6 l1_7 a1_8 a1_9 a1_10 a1_11 a1_12 a1_13 a1_14 a1_15 a1_16 a1_17 a1_18) else (none))
theorem towncrierref25_Leaks.mono_l : ∀ k, (∀ y0 y1 y2 y3 y4 y5 y6 y7 y8 y9 y10 y11 y12 y13 y14 y15 y16 y17 y18 y19 y20 y21 y22, LeO (towncrierref25_Leaks.l0 k y0 y1 y2 y3 y4 y5 y6 y7 y8 y9 y10 y11 y12 y13 y14 y15 y16 y17 y18 y19 y20 y21 y22) (towncrierref25_Leaks.l0 (k + 1) y0 y1 y2 y3 y4 y5 y6 y7 y8 y9 y10 y11 y12 y13 y14 y15 y16 y17 y18 y19 y20 y21 y22))
  | 0 => fun _ _ _ _ _ _ _ _ _ _ _ _ _ _ _ _ _ _ _ _ _ _ _ r h => by simp [towncrierref25_Leaks.l0] at h
  | k + 1 => by
    have ih0 := towncrierref25_Leaks.mono_l k
    · intro y0 y1 y2 y3 y4 y5 y6 y7 y8 y9 y10 y11 y12 y13 y14 y15 y16 y17 y18 y19 y20 y21 y22
      unfold towncrierref25_Leaks.l0
      repeat' first
      | (with_reducible exact ih0 _ _ _ _ _ _ _ _ _ _ _ _ _ _ _ _ _ _ _ _ _ _ _)
      | (with_reducible exact towncrierref01_Has.mono _ _ _)
      | (with_reducible exact towncrierref08_Hidden.mono _ _ _ _)
      | (with_reducible exact LeO.refl _)
      | (with_reducible exact LeO.none _)
      | (with_reducible refine LeO.ite ?_ ?_)
      | (with_reducible refine LeO.bind ?_ (fun _ => ?_))
      | exact ih0 _ _ _ _ _ _ _ _ _ _ _ _ _ _ _ _ _ _ _ _ _ _ _
      | exact towncrierref01_Has.mono _ _ _
      | exact towncrierref08_Hidden.mono _ _ _ _
      | exact LeO.none _
      | refine LeO.ite ?_ ?_
      | refine LeO.bind ?_ (fun _ => ?_)
theorem towncrierref25_Leaks.mono : ∀ a0 a1 a2 a3 a4 a5 a6 a7 a8 a9 a10 a11 a12 a13 a14 a15 a16 a17 a18 a19 k, LeO (towncrierref25_Leaks.f k a0 a1 a2 a3 a4 a5 a6 a7 a8 a9 a10 a11 a12 a13 a14 a15 a16 a17 a18 a19) (towncrierref25_Leaks.f (k + 1) a0 a1 a2 a3 a4 a5 a6 a7 a8 a9 a10 a11 a12 a13 a14 a15 a16 a17 a18 a19) := by
  intro a0 a1 a2 a3 a4 a5 a6 a7 a8 a9 a10 a11 a12 a13 a14 a15 a16 a17 a18 a19 k
  have ih0 := towncrierref25_Leaks.mono_l k
  unfold towncrierref25_Leaks.f
  repeat' first
      | (with_reducible exact ih0 _ _ _ _ _ _ _ _ _ _ _ _ _ _ _ _ _ _ _ _ _ _ _)
      | (with_reducible exact towncrierref01_Has.mono _ _ _)
      | (with_reducible exact towncrierref08_Hidden.mono _ _ _ _)
      | (with_reducible exact LeO.refl _)
      | (with_reducible exact LeO.none _)
      | (with_reducible refine LeO.ite ?_ ?_)
      | (with_reducible refine LeO.bind ?_ (fun _ => ?_))
      | exact ih0 _ _ _ _ _ _ _ _ _ _ _ _ _ _ _ _ _ _ _ _ _ _ _
      | exact towncrierref01_Has.mono _ _ _
      | exact towncrierref08_Hidden.mono _ _ _ _
      | exact LeO.none _
      | refine LeO.ite ?_ ?_
      | refine LeO.bind ?_ (fun _ => ?_)
def towncrierref25_Leaks.T6 : Bool × List (List Nat × List Nat) := (true, [([], []), ([], []), ([], []), ([1, 2], [1, 2]), ([3], [3]), ([], []), ([5], [5]), ([0, 4, 6], [0, 4, 6]), ([7, 7], [7]), ([8], [8]), ([8], [8]), ([8], [8]), ([10, 11, 8], [8, 10, 11]), ([12, 8], [8, 12]), ([9, 13, 8, 8], [8, 9, 13]), ([14, 8], [8, 14]), ([8, 15], [8, 15])])
def towncrierref25_Leaks.B6 : List Nat := [0, 0, 0, 6, 14, 0, 32, 127, 255, 511, 511, 511, 3583, 7679, 16383, 32767, 65535]
theorem towncrierref25_Leaks.tab6 : rtab .any (opsOf Try.f21 6) = towncrierref25_Leaks.T6 := by kernel_rfl
theorem towncrierref25_Leaks.bits6 : waitsOk towncrierref25_Leaks.T6.2 towncrierref25_Leaks.B6 = true := by kernel_rfl
set_option maxHeartbeats 8000000 in
set_option maxRecDepth 100000 in
theorem towncrierref25_Leaks.calls (k : Nat) (A0 : Option Addr) (c0 : Nat) (l0 : List (S61)) (a1_0 : Int) (a1_1 : Int) (a1_2 : Int) (a1_3 : Int) (a1_4 : Int) (a1_5 : Int) (a1_6 : Int) (A1_7 : Option Addr) (c1_7 : Nat) (l1_7 : List Int) (a1_8 : Bool) (a1_9 : Bool) (a1_10 : Bool) (a1_11 : Bool) (a1_12 : Bool) (a1_13 : Bool) (a1_14 : Bool) (a1_15 : Bool) (a1_16 : Int) (a1_17 : Int) (a1_18 : Int) (r : List Int) (w : World) (hr0 : Kd.C k61 w A0 l0.length l0) (hc0 : l0.length ≤ c0) (hr1_7 : Kd.C (Kd.int .i64) w A1_7 l1_7.length l1_7) (hc1_7 : l1_7.length ≤ c1_7) (h : towncrierref25_Leaks.f k l0 a1_0 a1_1 a1_2 a1_3 a1_4 a1_5 a1_6 l1_7 a1_8 a1_9 a1_10 a1_11 a1_12 a1_13 a1_14 a1_15 a1_16 a1_17 a1_18 = some r) :
    Calls Try.prog 21 #[.slice A0 l0.length c0, .agg #[.int .i64 a1_0, .int .i64 a1_1, .int .i64 a1_2, .int .i64 a1_3, .int .i64 a1_4, .int .i64 a1_5, .int .i64 a1_6, .slice A1_7 l1_7.length c1_7, .bool a1_8, .bool a1_9, .bool a1_10, .bool a1_11, .bool a1_12, .bool a1_13, .bool a1_14, .bool a1_15, .int .i64 a1_16, .int .i64 a1_17, .int .i64 a1_18]] w fun e w' => ∃ v0_ : Value, e = .returned (v0_) ∧ Kd.R (Kd.int .i64) 3 w' w.heap.size (fun _ => True) v0_ r ∧ Below w.heap.size w w' := by
  have hu34 := Try.underlying34
  have HR0 := Aside0.mk hr0
  have HC0 := Aside0.mk hc0
  clear hr0 hc0
  have HR1_7 := Aside0.mk hr1_7
  have HC1_7 := Aside0.mk hc1_7
  clear hr1_7 hc1_7
  have HB := Aside0.mk (Below.refl w.heap.size w)
  have H : ((some (([a1_5, a1_6] : List Int) : List Int)).bind fun y146 => (if y146.length + l1_7.length < 17592186044416 then (towncrierref25_Leaks.l0 k l0 ([] : List Int) (y146 ++ l1_7) 0 a1_0 a1_1 a1_2 a1_3 a1_4 a1_5 a1_6 l1_7 a1_8 a1_9 a1_10 a1_11 a1_12 a1_13 a1_14 a1_15 a1_16 a1_17 a1_18) else (none))) = some r := h
  clear h
  obtain ⟨y146, hy146⟩ : ∃ y_ : List Int, y_ = (([a1_5, a1_6] : List Int)) := ⟨_, rfl⟩
  replace H : (if y146.length + l1_7.length < 17592186044416 then (towncrierref25_Leaks.l0 k l0 ([] : List Int) (y146 ++ l1_7) 0 a1_0 a1_1 a1_2 a1_3 a1_4 a1_5 a1_6 l1_7 a1_8 a1_9 a1_10 a1_11 a1_12 a1_13 a1_14 a1_15 a1_16 a1_17 a1_18) else (none)) = some r := by first | (rw [hy146]; with_reducible exact H) | (have H2_ := (Option.bind_some _ _).symm.trans H; rw [hy146]; with_reducible exact H2_) | (have H2_ := (Option.bind_some _ _).symm.trans H; with_reducible exact H2_) | with_reducible exact H | (rw [hy146]; exact H) | exact H
  have Ny146 := Aside0.mk hy146
  clear hy146
  by_cases c3 : y146.length + l1_7.length < 17592186044416
  · rw [if_pos c3] at H
    have LMc3 := Aside0.mk c3
    clear c3
    obtain ⟨y149, hy149⟩ : ∃ y_ : List Int, y_ = (y146 ++ l1_7) := ⟨_, rfl⟩
    replace H : (towncrierref25_Leaks.l0 k l0 ([] : List Int) y149 0 a1_0 a1_1 a1_2 a1_3 a1_4 a1_5 a1_6 l1_7 a1_8 a1_9 a1_10 a1_11 a1_12 a1_13 a1_14 a1_15 a1_16 a1_17 a1_18) = some r := by first | (rw [hy149]; with_reducible exact H) | (have H2_ := (Option.bind_some _ _).symm.trans H; rw [hy149]; with_reducible exact H2_) | (have H2_ := (Option.bind_some _ _).symm.trans H; with_reducible exact H2_) | with_reducible exact H | (rw [hy149]; exact H) | exact H
    have Ny149 := Aside0.mk hy149
    clear hy149
    have H' := Aside0.mk H
    clear H
    go_enter Try.func21, Try.ntmps21
    go_wp2_with (first | ((with_reducible refine gate_dst (N := 3) rfl ?_); refine box_event ?hg (N := 3) ?hd (cs := #[.int .i64 a1_0, .int .i64 a1_1, .int .i64 a1_2, .int .i64 a1_3, .int .i64 a1_4, .int .i64 a1_5, .int .i64 a1_6, .slice A1_7 l1_7.length c1_7, .bool a1_8, .bool a1_9, .bool a1_10, .bool a1_11, .bool a1_12, .bool a1_13, .bool a1_14, .bool a1_15, .int .i64 a1_16, .int .i64 a1_17, .int .i64 a1_18]) (t := 34) ?hr ?_; (case hd => rfl); (case hg => rfl); (case hr => first | (go_simp; done) | (go_simp; rfl)); intro gb145 hg w4 hbox hb; have n0_ := Aside0.mk (below_step (by repeat (first | (with_reducible first | exact HB.out | apply below_alloc | apply pw_below_drewN | apply below_drew1) | exact HB.out)) hb); have n1_ := Aside0.mk (hbox); have n2_ := Aside0.mk ((by rw [hg]; exact (below_size (by repeat (first | (with_reducible first | exact HB.out | apply below_alloc | apply pw_below_drewN | apply below_drew1) | exact HB.out))) : w.heap.size ≤ gb145)); have n3_ := Aside0.mk ((by rw [hg]; exact (below_size (by repeat (first | (with_reducible first | exact HB.out | apply below_alloc | apply pw_below_drewN | apply below_drew1) | exact HB.out))) : w.heap.size ≤ gb145)); clear HB; have HB := n0_; have BK145 := n1_; have GW145 := n2_; have GE145 := n3_; clear n0_ n1_ n2_ n3_; clear hb hbox hg; have hcz5_0 : w4.cell? ⟨gb145, 0, none⟩ = some (.int .i64 a1_0) := (blk_cell BK145.out 0).trans rfl; have hcz5_1 : w4.cell? ⟨gb145, 1, none⟩ = some (.int .i64 a1_1) := (blk_cell BK145.out 1).trans rfl; have hcz5_2 : w4.cell? ⟨gb145, 2, none⟩ = some (.int .i64 a1_2) := (blk_cell BK145.out 2).trans rfl; have hcz5_3 : w4.cell? ⟨gb145, 3, none⟩ = some (.int .i64 a1_3) := (blk_cell BK145.out 3).trans rfl; have hcz5_4 : w4.cell? ⟨gb145, 4, none⟩ = some (.int .i64 a1_4) := (blk_cell BK145.out 4).trans rfl; have hcz5_5 : w4.cell? ⟨gb145, 5, none⟩ = some (.int .i64 a1_5) := (blk_cell BK145.out 5).trans rfl; have hcz5_6 : w4.cell? ⟨gb145, 6, none⟩ = some (.int .i64 a1_6) := (blk_cell BK145.out 6).trans rfl; have hcz5_7 : w4.cell? ⟨gb145, 7, none⟩ = some (.slice A1_7 l1_7.length c1_7) := (blk_cell BK145.out 7).trans rfl; have hcz5_8 : w4.cell? ⟨gb145, 8, none⟩ = some (.bool a1_8) := (blk_cell BK145.out 8).trans rfl; have hcz5_9 : w4.cell? ⟨gb145, 9, none⟩ = some (.bool a1_9) := (blk_cell BK145.out 9).trans rfl; have hcz5_10 : w4.cell? ⟨gb145, 10, none⟩ = some (.bool a1_10) := (blk_cell BK145.out 10).trans rfl; have hcz5_11 : w4.cell? ⟨gb145, 11, none⟩ = some (.bool a1_11) := (blk_cell BK145.out 11).trans rfl; have hcz5_12 : w4.cell? ⟨gb145, 12, none⟩ = some (.bool a1_12) := (blk_cell BK145.out 12).trans rfl; have hcz5_13 : w4.cell? ⟨gb145, 13, none⟩ = some (.bool a1_13) := (blk_cell BK145.out 13).trans rfl; have hcz5_14 : w4.cell? ⟨gb145, 14, none⟩ = some (.bool a1_14) := (blk_cell BK145.out 14).trans rfl; have hcz5_15 : w4.cell? ⟨gb145, 15, none⟩ = some (.bool a1_15) := (blk_cell BK145.out 15).trans rfl; have hcz5_16 : w4.cell? ⟨gb145, 16, none⟩ = some (.int .i64 a1_16) := (blk_cell BK145.out 16).trans rfl; have hcz5_17 : w4.cell? ⟨gb145, 17, none⟩ = some (.int .i64 a1_17) := (blk_cell BK145.out 17).trans rfl; have hcz5_18 : w4.cell? ⟨gb145, 18, none⟩ = some (.int .i64 a1_18) := (blk_cell BK145.out 18).trans rfl; have hfz5_0 := blk_frozen BK145.out 0; have hfz5_1 := blk_frozen BK145.out 1; have hfz5_2 := blk_frozen BK145.out 2; have hfz5_3 := blk_frozen BK145.out 3; have hfz5_4 := blk_frozen BK145.out 4; have hfz5_5 := blk_frozen BK145.out 5; have hfz5_6 := blk_frozen BK145.out 6; have hfz5_7 := blk_frozen BK145.out 7; have hfz5_8 := blk_frozen BK145.out 8; have hfz5_9 := blk_frozen BK145.out 9; have hfz5_10 := blk_frozen BK145.out 10; have hfz5_11 := blk_frozen BK145.out 11; have hfz5_12 := blk_frozen BK145.out 12; have hfz5_13 := blk_frozen BK145.out 13; have hfz5_14 := blk_frozen BK145.out 14; have hfz5_15 := blk_frozen BK145.out 15; have hfz5_16 := blk_frozen BK145.out 16; have hfz5_17 := blk_frozen BK145.out 17; have hfz5_18 := blk_frozen BK145.out 18) | ((with_reducible refine gate_dst (N := 12) rfl ?_); refine Kd.R_lit (Kd.int .i64) _ 3 ?hg (N := 12) ?hd (xs := ([a1_5, a1_6] : List Int)) (inner := [.int .i64 a1_5, .int .i64 a1_6]) (ok := fun _ => True) (okp := fun _ => True) ?hr ?hp (fun _ hk => hk) trivial (Below.refl _ _) (Nat.le_refl _) (by simp) ?_; (case hd => rfl); (case hg => rfl); (case hr => first | (go_simp; done) | (go_simp; rfl)); (case hp => exact (Reps.one (show Kd.M (Kd.int .i64) _ _ _ a1_5 [.int .i64 a1_5] from rfl) (Reps.one (show Kd.M (Kd.int .i64) _ _ _ a1_6 [.int .i64 a1_6] from rfl) (Reps.none _ _)))); intro v147 w6 ho7 hb hg_ hnew_; clear hg_ hnew_; (first | rw [← Ny146.out] at ho7 | (simp only [Int.reduceToNat] at ho7; rw [← Ny146.out] at ho7)); have n0_ := Aside0.mk (Kd.R_lower ho7 (below_size (by repeat (first | (with_reducible first | exact HB.out | apply below_alloc | apply pw_below_drewN | apply below_drew1 | refine below_set ?_ GE145.out) | exact HB.out)))); have n1_ := Aside0.mk (blk_below (g := gb145) (o := .cells #[.int .i64 a1_0, .int .i64 a1_1, .int .i64 a1_2, .int .i64 a1_3, .int .i64 a1_4, .int .i64 a1_5, .int .i64 a1_6, .slice A1_7 l1_7.length c1_7, .bool a1_8, .bool a1_9, .bool a1_10, .bool a1_11, .bool a1_12, .bool a1_13, .bool a1_14, .bool a1_15, .int .i64 a1_16, .int .i64 a1_17, .int .i64 a1_18] 34 (0, 0)) (by (with_reducible repeat (first | refine blk_drewN ?_ _ | refine blk_drew ?_ | refine blk_alloc ?_ _)); exact BK145.out) hb); have n2_ := Aside0.mk (below_step (by repeat (first | (with_reducible first | exact HB.out | apply below_alloc | apply pw_below_drewN | apply below_drew1 | refine below_set ?_ GE145.out) | exact HB.out)) hb); clear BK145; clear HB; have HO148 := n0_; have BK145 := n1_; have HB := n2_; clear n0_ n1_ n2_; clear hb ho7; have hcz8_0 : w6.cell? ⟨gb145, 0, none⟩ = some (.int .i64 a1_0) := (blk_cell BK145.out 0).trans rfl; have hcz8_1 : w6.cell? ⟨gb145, 1, none⟩ = some (.int .i64 a1_1) := (blk_cell BK145.out 1).trans rfl; have hcz8_2 : w6.cell? ⟨gb145, 2, none⟩ = some (.int .i64 a1_2) := (blk_cell BK145.out 2).trans rfl; have hcz8_3 : w6.cell? ⟨gb145, 3, none⟩ = some (.int .i64 a1_3) := (blk_cell BK145.out 3).trans rfl; have hcz8_4 : w6.cell? ⟨gb145, 4, none⟩ = some (.int .i64 a1_4) := (blk_cell BK145.out 4).trans rfl; have hcz8_5 : w6.cell? ⟨gb145, 5, none⟩ = some (.int .i64 a1_5) := (blk_cell BK145.out 5).trans rfl; have hcz8_6 : w6.cell? ⟨gb145, 6, none⟩ = some (.int .i64 a1_6) := (blk_cell BK145.out 6).trans rfl; have hcz8_7 : w6.cell? ⟨gb145, 7, none⟩ = some (.slice A1_7 l1_7.length c1_7) := (blk_cell BK145.out 7).trans rfl; have hcz8_8 : w6.cell? ⟨gb145, 8, none⟩ = some (.bool a1_8) := (blk_cell BK145.out 8).trans rfl; have hcz8_9 : w6.cell? ⟨gb145, 9, none⟩ = some (.bool a1_9) := (blk_cell BK145.out 9).trans rfl; have hcz8_10 : w6.cell? ⟨gb145, 10, none⟩ = some (.bool a1_10) := (blk_cell BK145.out 10).trans rfl; have hcz8_11 : w6.cell? ⟨gb145, 11, none⟩ = some (.bool a1_11) := (blk_cell BK145.out 11).trans rfl; have hcz8_12 : w6.cell? ⟨gb145, 12, none⟩ = some (.bool a1_12) := (blk_cell BK145.out 12).trans rfl; have hcz8_13 : w6.cell? ⟨gb145, 13, none⟩ = some (.bool a1_13) := (blk_cell BK145.out 13).trans rfl; have hcz8_14 : w6.cell? ⟨gb145, 14, none⟩ = some (.bool a1_14) := (blk_cell BK145.out 14).trans rfl; have hcz8_15 : w6.cell? ⟨gb145, 15, none⟩ = some (.bool a1_15) := (blk_cell BK145.out 15).trans rfl; have hcz8_16 : w6.cell? ⟨gb145, 16, none⟩ = some (.int .i64 a1_16) := (blk_cell BK145.out 16).trans rfl; have hcz8_17 : w6.cell? ⟨gb145, 17, none⟩ = some (.int .i64 a1_17) := (blk_cell BK145.out 17).trans rfl; have hcz8_18 : w6.cell? ⟨gb145, 18, none⟩ = some (.int .i64 a1_18) := (blk_cell BK145.out 18).trans rfl; have hfz8_0 := blk_frozen BK145.out 0; have hfz8_1 := blk_frozen BK145.out 1; have hfz8_2 := blk_frozen BK145.out 2; have hfz8_3 := blk_frozen BK145.out 3; have hfz8_4 := blk_frozen BK145.out 4; have hfz8_5 := blk_frozen BK145.out 5; have hfz8_6 := blk_frozen BK145.out 6; have hfz8_7 := blk_frozen BK145.out 7; have hfz8_8 := blk_frozen BK145.out 8; have hfz8_9 := blk_frozen BK145.out 9; have hfz8_10 := blk_frozen BK145.out 10; have hfz8_11 := blk_frozen BK145.out 11; have hfz8_12 := blk_frozen BK145.out 12; have hfz8_13 := blk_frozen BK145.out 13; have hfz8_14 := blk_frozen BK145.out 14; have hfz8_15 := blk_frozen BK145.out 15; have hfz8_16 := blk_frozen BK145.out 16; have hfz8_17 := blk_frozen BK145.out 17; have hfz8_18 := blk_frozen BK145.out 18) | ((with_reducible refine gate_builtin (b := .append) (xs := #[.tmp 12, .tmp 14]) rfl ?_); at_builtin; refine Kd.R_append_rows (Kd.int .i64) (w0 := w) w.heap.size rfl (.tmp 12) (.tmp 14) 29 3 (.int .i64 0) 8 rfl Try.underlying29 info3 rfl (by decide) (by omega) v147 y146 l1_7 _ _ _ (fun _ => True) (fun _ => False) rfl rfl ?aO ?aR (fun _ _ h => h) (fun _ h => h.elim) ?aF ?aB ?aS ?aL ?_; (case aR => repeat (first | exact (Kd.C_below HR1_7.out HB.out) | (with_reducible refine Kd.C_alloc ?_ _) | (with_reducible refine Kd.C_drewN ?_ _) | (with_reducible refine Kd.C_drew ?_))); (case aB => exact (by repeat (first | (with_reducible first | exact HB.out | apply below_alloc | apply pw_below_drewN | apply below_drew1 | refine below_set ?_ GE145.out) | exact HB.out))); (case aF => exact (fun _ _ => trivial)); (case aO => exact (by (with_reducible repeat (first | apply Kd.R_alloc | apply Kd.R_drewN | apply Kd.R_drew)); exact HO148.out)); (case aS => exact (below_size (by repeat (first | (with_reducible first | exact HB.out | apply below_alloc | apply pw_below_drewN | apply below_drew1 | refine below_set ?_ GE145.out) | exact HB.out)))); (case aL => have := LMc3.out; omega); intro v150 w9 ho hb hg hat; rw [← Ny149.out] at ho; have n0_ := Aside0.mk (blk_grown (g := gb145) (o := .cells #[.int .i64 a1_0, .int .i64 a1_1, .int .i64 a1_2, .int .i64 a1_3, .int .i64 a1_4, .int .i64 a1_5, .int .i64 a1_6, .slice A1_7 l1_7.length c1_7, .bool a1_8, .bool a1_9, .bool a1_10, .bool a1_11, .bool a1_12, .bool a1_13, .bool a1_14, .bool a1_15, .int .i64 a1_16, .int .i64 a1_17, .int .i64 a1_18] 34 (0, 0)) (by (with_reducible repeat (first | refine blk_drewN ?_ _ | refine blk_drew ?_ | refine blk_alloc ?_ _)); exact BK145.out) hg (Kd.R_ne HO148.out BK145.out (by decide))); have n1_ := Aside0.mk (hb); have n2_ := Aside0.mk (ho); clear BK145; clear HB; clear HO148; have BK145 := n0_; have HB := n1_; have HO151 := n2_; clear n0_ n1_ n2_; clear ho hb hg hat))
    go_loopg [5, 7] k (fun kq v5 v7 w' => ∃ (x5_1 : List Int) (x7_1 : Int), v7 = .int .i64 x7_1 ∧ Aside0 (towncrierref25_Leaks.l0 kq l0 x5_1 y149 x7_1 a1_0 a1_1 a1_2 a1_3 a1_4 a1_5 a1_6 l1_7 a1_8 a1_9 a1_10 a1_11 a1_12 a1_13 a1_14 a1_15 a1_16 a1_17 a1_18 = some r) ∧ Aside0 (kq ≤ k) ∧ Aside0 (Kd.R (Kd.int .i64) 3 w' w.heap.size (fun k_ => some k_ ≠ (v150 : Value).ownBlock) v5 x5_1) ∧ Aside0 (Kd.R (Kd.int .i64) 3 w' w.heap.size (fun k_ => some k_ ≠ (v5 : Value).ownBlock) v150 y149) ∧ Aside0 (w'.heap[gb145]? = some (.cells #[.int .i64 a1_0, .int .i64 a1_1, .int .i64 a1_2, .int .i64 a1_3, .int .i64 a1_4, .int .i64 a1_5, .int .i64 a1_6, (.slice A1_7 l1_7.length c1_7), .bool a1_8, .bool a1_9, .bool a1_10, .bool a1_11, .bool a1_12, .bool a1_13, .bool a1_14, .bool a1_15, .int .i64 a1_16, .int .i64 a1_17, .int .i64 a1_18] 34 (0, 0))) ∧ Aside0 (Below w.heap.size w w'))
    case atStart => exact ⟨(([] : List Int)), (0), (by first | rfl | (simp; done) | (simp [*]; done)), H', ⟨Nat.le_refl _⟩, ⟨by first | exact Kd.R_nil _ _ _ _ _ | exact Kd.N_nil _ _ _ _ _ | exact Kd.V_nil _ _ _ _ _ | exact Kd.Q_nil _ _ _ _ _ | exact Kd.S_nil _ _ _ _ _⟩, ⟨by (with_reducible repeat (first | apply Kd.R_alloc | apply Kd.R_drewN | apply Kd.R_drew)); exact Kd.R_mono HO151.out (fun _ hk => (by simp [Value.ownBlock]))⟩, ⟨by (with_reducible repeat (first | refine blk_drewN ?_ _ | refine blk_drew ?_ | refine blk_alloc ?_ _)); exact BK145.out⟩, ⟨by repeat (first | (with_reducible first | exact HB.out | apply below_alloc | apply pw_below_drewN | apply below_drew1 | refine below_set ?_ GE145.out) | exact HB.out)⟩⟩
    case round =>
      clear H'
      try clear c1
      try clear c2
      try clear p2
      try clear c3
      try clear hcz5_0
      try clear hcz5_1
      try clear hcz5_10
      try clear hcz5_11
      try clear hcz5_12
      try clear hcz5_13
      try clear hcz5_14
      try clear hcz5_15
      try clear hcz5_16
      try clear hcz5_17
      try clear hcz5_18
      try clear hcz5_2
      try clear hcz5_3
      try clear hcz5_4
      try clear hcz5_5
      try clear hcz5_6
      try clear hcz5_7
      try clear hcz5_8
      try clear hcz5_9
      try clear hcz8_0
      try clear hcz8_1
      try clear hcz8_10
      try clear hcz8_11
      try clear hcz8_12
      try clear hcz8_13
      try clear hcz8_14
      try clear hcz8_15
      try clear hcz8_16
      try clear hcz8_17
      try clear hcz8_18
      try clear hcz8_2
      try clear hcz8_3
      try clear hcz8_4
      try clear hcz8_5
      try clear hcz8_6
      try clear hcz8_7
      try clear hcz8_8
      try clear hcz8_9
      try clear hfz5_0
      try clear hfz5_1
      try clear hfz5_10
      try clear hfz5_11
      try clear hfz5_12
      try clear hfz5_13
      try clear hfz5_14
      try clear hfz5_15
      try clear hfz5_16
      try clear hfz5_17
      try clear hfz5_18
      try clear hfz5_2
      try clear hfz5_3
      try clear hfz5_4
      try clear hfz5_5
      try clear hfz5_6
      try clear hfz5_7
      try clear hfz5_8
      try clear hfz5_9
      try clear hfz8_0
      try clear hfz8_1
      try clear hfz8_10
      try clear hfz8_11
      try clear hfz8_12
      try clear hfz8_13
      try clear hfz8_14
      try clear hfz8_15
      try clear hfz8_16
      try clear hfz8_17
      try clear hfz8_18
      try clear hfz8_2
      try clear hfz8_3
      try clear hfz8_4
      try clear hfz8_5
      try clear hfz8_6
      try clear hfz8_7
      try clear hfz8_8
      try clear hfz8_9
      obtain ⟨x5_1, x7_1, rfl, HA, HK1, HO_5, HO_6, BK145, HB⟩ := hrel
      cases gk with
      | zero => exact absurd HA.out (by simp [towncrierref25_Leaks.l0])
      | succ k1 =>
        have H := HA.out
        clear HA
        simp only [towncrierref25_Leaks.l0] at H
        by_cases c10 : x7_1 < (y149.length : Int)
        · rw [if_pos c10] at H
          have c10b0 : decide (x7_1 < (y149.length : Int)) = true := decide_eq_true c10
          clear c10
          by_cases c11 : 0 ≤ x7_1
          · rw [if_pos c11] at H
            have c11b0 : decide (0 ≤ x7_1) = true := decide_eq_true c11
            clear c11
            replace H := Option.bind_eq_some_iff.mp H
            obtain ⟨t153, A120, H⟩ := H
            replace H : (if t153 = true then ((towncrierref01_Has.f k1 x5_1 (rd y149 x7_1)).bind fun t155 => (if t155 = true then (towncrierref25_Leaks.l0 k1 l0 x5_1 y149 (wrap64 (x7_1 + 1)) a1_0 a1_1 a1_2 a1_3 a1_4 a1_5 a1_6 l1_7 a1_8 a1_9 a1_10 a1_11 a1_12 a1_13 a1_14 a1_15 a1_16 a1_17 a1_18) else (if x5_1.length < 17592186044416 then (towncrierref25_Leaks.l0 k1 l0 (x5_1 ++ [rd y149 x7_1]) y149 (wrap64 (x7_1 + 1)) a1_0 a1_1 a1_2 a1_3 a1_4 a1_5 a1_6 l1_7 a1_8 a1_9 a1_10 a1_11 a1_12 a1_13 a1_14 a1_15 a1_16 a1_17 a1_18) else (none)))) else (towncrierref25_Leaks.l0 k1 l0 x5_1 y149 (wrap64 (x7_1 + 1)) a1_0 a1_1 a1_2 a1_3 a1_4 a1_5 a1_6 l1_7 a1_8 a1_9 a1_10 a1_11 a1_12 a1_13 a1_14 a1_15 a1_16 a1_17 a1_18)) = some r := H
            have A12 := Aside0.mk A120
            clear A120
            by_cases c13 : t153 = true
            · subst c13
              have H1 : ((towncrierref01_Has.f k1 x5_1 (rd y149 x7_1)).bind fun t155 => (if t155 = true then (towncrierref25_Leaks.l0 k1 l0 x5_1 y149 (wrap64 (x7_1 + 1)) a1_0 a1_1 a1_2 a1_3 a1_4 a1_5 a1_6 l1_7 a1_8 a1_9 a1_10 a1_11 a1_12 a1_13 a1_14 a1_15 a1_16 a1_17 a1_18) else (if x5_1.length < 17592186044416 then (towncrierref25_Leaks.l0 k1 l0 (x5_1 ++ [rd y149 x7_1]) y149 (wrap64 (x7_1 + 1)) a1_0 a1_1 a1_2 a1_3 a1_4 a1_5 a1_6 l1_7 a1_8 a1_9 a1_10 a1_11 a1_12 a1_13 a1_14 a1_15 a1_16 a1_17 a1_18) else (none)))) = some r := by rw [if_pos rfl] at H; exact H
              clear H
              have H := H1
              clear H1
              replace H := Option.bind_eq_some_iff.mp H
              obtain ⟨t155, A140, H⟩ := H
              replace H : (if t155 = true then (towncrierref25_Leaks.l0 k1 l0 x5_1 y149 (wrap64 (x7_1 + 1)) a1_0 a1_1 a1_2 a1_3 a1_4 a1_5 a1_6 l1_7 a1_8 a1_9 a1_10 a1_11 a1_12 a1_13 a1_14 a1_15 a1_16 a1_17 a1_18) else (if x5_1.length < 17592186044416 then (towncrierref25_Leaks.l0 k1 l0 (x5_1 ++ [rd y149 x7_1]) y149 (wrap64 (x7_1 + 1)) a1_0 a1_1 a1_2 a1_3 a1_4 a1_5 a1_6 l1_7 a1_8 a1_9 a1_10 a1_11 a1_12 a1_13 a1_14 a1_15 a1_16 a1_17 a1_18) else (none))) = some r := H
              have A14 := Aside0.mk A140
              clear A140
              by_cases c15 : t155 = true
              · subst c15
                have H1 : (towncrierref25_Leaks.l0 k1 l0 x5_1 y149 (wrap64 (x7_1 + 1)) a1_0 a1_1 a1_2 a1_3 a1_4 a1_5 a1_6 l1_7 a1_8 a1_9 a1_10 a1_11 a1_12 a1_13 a1_14 a1_15 a1_16 a1_17 a1_18) = some r := by rw [if_pos rfl] at H; exact H
                clear H
                have H := H1
                clear H1
                have H' := Aside0.mk H
                clear H
                obtain ⟨Ao16, co16, eo16⟩ := Kd.R_slice HO_6.out
                subst eo16
                try go_wp2
                have n0_ := Aside0.mk (Kd.R_drew HO_5.out)
                have n1_ := Aside0.mk (Kd.R_drew HO_6.out)
                have n2_ := Aside0.mk (blk_drew BK145.out)
                have n3_ := Aside0.mk (below_drew1 HB.out)
                clear HO_5
                clear HO_6
                clear BK145
                clear HB
                have HO_5 := n0_
                have HO_6 := n1_
                have BK145 := n2_
                have HB := n3_
                clear n0_ n1_ n2_ n3_
                have p152 : 0 ≤ (x7_1 : Int) := of_decide_eq_true (by first | (with_reducible assumption) | assumption)
                have q152 : x7_1 < (y149.length : Int) := of_decide_eq_true (by first | (with_reducible assumption) | assumption)
                obtain ⟨ad152, e152, hx152_0⟩ := Kd.at_int (Kd.R_reads' HO_6.out).2.2 x7_1 p152 q152
                cases e152
                replace p152 := eq_true p152
                replace q152 := eq_true q152
                have p154 : 0 ≤ (x7_1 : Int) := of_decide_eq_true (by first | (with_reducible assumption) | assumption)
                have q154 : x7_1 < (y149.length : Int) := of_decide_eq_true (by first | (with_reducible assumption) | assumption)
                obtain ⟨ad154, e154, hx154_0⟩ := Kd.at_int (Kd.R_reads' HO_6.out).2.2 x7_1 p154 q154
                obtain rfl : ad152 = ad154 := (by injection e154)
                replace p154 := eq_true p154
                replace q154 := eq_true q154
                refine start_ (n := 17) (S := fun w' => w'.cell? ⟨gb145, 0, none⟩ = some (.int .i64 a1_0) ∧ w'.cell? ⟨gb145, 1, none⟩ = some (.int .i64 a1_1) ∧ w'.cell? ⟨gb145, 2, none⟩ = some (.int .i64 a1_2) ∧ w'.cell? ⟨gb145, 3, none⟩ = some (.int .i64 a1_3) ∧ w'.cell? ⟨gb145, 4, none⟩ = some (.int .i64 a1_4) ∧ w'.cell? ⟨gb145, 5, none⟩ = some (.int .i64 a1_5) ∧ w'.cell? ⟨gb145, 6, none⟩ = some (.int .i64 a1_6) ∧ w'.cell? ⟨gb145, 7, none⟩ = some (.slice A1_7 l1_7.length c1_7) ∧ w'.cell? ⟨gb145, 8, none⟩ = some (.bool a1_8) ∧ w'.cell? ⟨gb145, 9, none⟩ = some (.bool a1_9) ∧ w'.cell? ⟨gb145, 10, none⟩ = some (.bool a1_10) ∧ w'.cell? ⟨gb145, 11, none⟩ = some (.bool a1_11) ∧ w'.cell? ⟨gb145, 12, none⟩ = some (.bool a1_12) ∧ w'.cell? ⟨gb145, 13, none⟩ = some (.bool a1_13) ∧ w'.cell? ⟨gb145, 14, none⟩ = some (.bool a1_14) ∧ w'.cell? ⟨gb145, 15, none⟩ = some (.bool a1_15) ∧ w'.cell? ⟨gb145, 16, none⟩ = some (.int .i64 a1_16) ∧ w'.cell? ⟨gb145, 17, none⟩ = some (.int .i64 a1_17) ∧ w'.cell? ⟨gb145, 18, none⟩ = some (.int .i64 a1_18) ∧ w'.cell? (ad152.add (x7_1).toNat) = some (.int .i64 (rd y149 x7_1)) ∧ w'.cell? (ad152.add (x7_1).toNat) = some (.int .i64 (rd y149 x7_1))) (ds := []) #[false, false, false, false, false, false, false, false, false, false, false, false, false, false, false, false, false] (by kernel_rfl) rfl rfl ⟨(blk_cell BK145.out 0).trans rfl, (blk_cell BK145.out 1).trans rfl, (blk_cell BK145.out 2).trans rfl, (blk_cell BK145.out 3).trans rfl, (blk_cell BK145.out 4).trans rfl, (blk_cell BK145.out 5).trans rfl, (blk_cell BK145.out 6).trans rfl, (blk_cell BK145.out 7).trans rfl, (blk_cell BK145.out 8).trans rfl, (blk_cell BK145.out 9).trans rfl, (blk_cell BK145.out 10).trans rfl, (blk_cell BK145.out 11).trans rfl, (blk_cell BK145.out 12).trans rfl, (blk_cell BK145.out 13).trans rfl, (blk_cell BK145.out 14).trans rfl, (blk_cell BK145.out 15).trans rfl, (blk_cell BK145.out 16).trans rfl, (blk_cell BK145.out 17).trans rfl, (blk_cell BK145.out 18).trans rfl, hx152_0, hx154_0⟩ (fun hHeld => ?_); refine with_tabW towncrierref25_Leaks.tab6 towncrierref25_Leaks.bits6 (fun HT_ HW_ => ?_)
                generalize wr.drew = w17 at HO_5 HO_6 BK145 HB hx152_0 hx154_0 hHeld ⊢
                refine pure_ (i := 0) (N := some 22) (v := ?_) (a' := ?_) #[true, false, false, false, false, false, false, false, false, false, false, false, false, false, false, false, false] rfl rfl (any_of HT_.out (by kernel_rfl)) (fun _ _ _ h => h) (Or.inl ⟨by rfl, ?_⟩) ?_ ?_
                rotate_left
                · intro w'
                  go_simp
                  with_reducible rfl
                rotate_left
                · simp only [Act.put, List.setIfInBounds_toArray, List.set_cons_zero, List.set_cons_succ, i64_w, i32_w]
                  rfl
                refine pure_ (i := 1) (N := some 23) (v := ?_) (a' := ?_) #[true, true, false, false, false, false, false, false, false, false, false, false, false, false, false, false, false] rfl rfl (any_of HT_.out (by kernel_rfl)) (fun _ _ _ h => h) (Or.inl ⟨by rfl, ?_⟩) ?_ ?_
                rotate_left
                · intro w'
                  go_simp
                  with_reducible rfl
                rotate_left
                · simp only [Act.put, List.setIfInBounds_toArray, List.set_cons_zero, List.set_cons_succ, i64_w, i32_w]
                  rfl
                refine pure_ (i := 2) (N := some 24) (v := ?_) (a' := ?_) #[true, true, true, false, false, false, false, false, false, false, false, false, false, false, false, false, false] rfl rfl (any_of HT_.out (by kernel_rfl)) (fun _ _ _ h => h) (Or.inl ⟨by rfl, ?_⟩) ?_ ?_
                rotate_left
                · intro w'
                  go_simp
                  with_reducible rfl
                rotate_left
                · simp only [Act.put, List.setIfInBounds_toArray, List.set_cons_zero, List.set_cons_succ, i64_w, i32_w]
                  rfl
                refine pure_ (i := 3) (N := some 25) (v := ?_) (a' := ?_) #[true, true, true, true, false, false, false, false, false, false, false, false, false, false, false, false, false] rfl rfl (any_of HT_.out (by kernel_rfl)) (fun _ _ _ h => h) (Or.inl ⟨by rfl, ?_⟩) ?_ ?_
                rotate_left
                · intro w'
                  go_simp
                  with_reducible rfl
                rotate_left
                · simp only [Act.put, List.setIfInBounds_toArray, List.set_cons_zero, List.set_cons_succ, i64_w, i32_w]
                  rfl
                refine pure_ (i := 5) (N := some 27) (v := ?_) (a' := ?_) #[true, true, true, true, false, true, false, false, false, false, false, false, false, false, false, false, false] rfl rfl (any_of HT_.out (by kernel_rfl)) (fun _ _ _ h => h) (Or.inl ⟨by rfl, ?_⟩) ?_ ?_
                rotate_left
                · intro w'
                  go_simp
                  with_reducible rfl
                rotate_left
                · simp only [Act.put, List.setIfInBounds_toArray, List.set_cons_zero, List.set_cons_succ, i64_w, i32_w]
                  rfl
                refine take_ (i := 4) (N := some 26) (v := ?_) (a' := ?_) #[true, true, true, true, true, true, false, false, false, false, false, false, false, false, false, false, false] rfl rfl (take_ofW HT_.out HW_.out (by kernel_rfl)) (fun _ _ _ h => h) (Or.inl ⟨by rfl, ?_⟩) hHeld ?_ ?_
                rotate_left
                · rintro w' ⟨s0, s1, s2, s3, s4, s5, s6, s7, s8, s9, s10, s11, s12, s13, s14, s15, s16, s17, s18, s19, s20⟩
                  go_simp
                  with_reducible rfl
                rotate_left
                · simp only [Act.put, List.setIfInBounds_toArray, List.set_cons_zero, List.set_cons_succ, i64_w, i32_w]
                  rfl
                refine take_ (i := 6) (N := some 28) (v := ?_) (a' := ?_) #[true, true, true, true, true, true, true, false, false, false, false, false, false, false, false, false, false] rfl rfl (take_ofW HT_.out HW_.out (by kernel_rfl)) (fun _ _ _ h => h) (Or.inl ⟨by rfl, ?_⟩) hHeld ?_ ?_
                rotate_left
                · rintro w' ⟨s0, s1, s2, s3, s4, s5, s6, s7, s8, s9, s10, s11, s12, s13, s14, s15, s16, s17, s18, s19, s20⟩
                  go_simp
                  with_reducible rfl
                rotate_left
                · simp only [Act.put, List.setIfInBounds_toArray, List.set_cons_zero, List.set_cons_succ, i64_w, i32_w]
                  rfl
                refine one_ (i := 7) (N := some 29) #[true, true, true, true, true, true, true, true, false, false, false, false, false, false, false, false, false] rfl rfl (one_of HT_.out (by kernel_rfl)) (by decide) (fun K hK => ?_)
                refine goes_ Try.func33 (by kernel_rfl) rfl #[.slice A0 l0.length c0, .int .i64 (rd y149 x7_1), .int .i64 a1_3] (by rfl) rfl rfl (by (try simp only [List.map_toArray, List.map_cons, List.map_nil]); first | done | rfl | (simp only [List.length_drop, List.length_take]; rfl)) ?_
                with_reducible refine (towncrierref08_Hidden.calls k1 _ _ l0 (rd y149 x7_1) a1_3 true _ ?side1 ?side2 A12.out).mono ?_
                (case side1 => repeat (first | exact (Kd.C_below HR0.out HB.out) | (with_reducible refine Kd.C_alloc ?_ _) | (with_reducible refine Kd.C_drewN ?_ _) | (with_reducible refine Kd.C_drew ?_)))
                (case side2 => exact HC0.out)
                rintro e w18 ⟨rfl, hb⟩
                have HS19_ := (hb.cell (World.block_lt_of_cell? _ _ (hHeld.2.2.2.2.2.2.2.2.2.2.2.2.2.2.2.2.2.2.2.1))).trans (hHeld.2.2.2.2.2.2.2.2.2.2.2.2.2.2.2.2.2.2.2.1)
                have HS20_ := (hb.cell (World.block_lt_of_cell? _ _ (hHeld.2.2.2.2.2.2.2.2.2.2.2.2.2.2.2.2.2.2.2.2))).trans (hHeld.2.2.2.2.2.2.2.2.2.2.2.2.2.2.2.2.2.2.2.2)
                refine ⟨_, rfl, ?_⟩
                have n0_ := Aside0.mk (Kd.R_below (by (with_reducible repeat (first | apply Kd.R_alloc | apply Kd.R_drewN | apply Kd.R_drew)); exact HO_5.out) hb)
                have n1_ := Aside0.mk (Kd.R_below (by (with_reducible repeat (first | apply Kd.R_alloc | apply Kd.R_drewN | apply Kd.R_drew)); exact HO_6.out) hb)
                have n2_ := Aside0.mk (blk_below (g := gb145) (o := .cells #[.int .i64 a1_0, .int .i64 a1_1, .int .i64 a1_2, .int .i64 a1_3, .int .i64 a1_4, .int .i64 a1_5, .int .i64 a1_6, .slice A1_7 l1_7.length c1_7, .bool a1_8, .bool a1_9, .bool a1_10, .bool a1_11, .bool a1_12, .bool a1_13, .bool a1_14, .bool a1_15, .int .i64 a1_16, .int .i64 a1_17, .int .i64 a1_18] 34 (0, 0)) (by (with_reducible repeat (first | refine blk_drewN ?_ _ | refine blk_drew ?_ | refine blk_alloc ?_ _)); exact BK145.out) hb)
                have n3_ := Aside0.mk (below_step (by repeat (first | (with_reducible first | exact HB.out | apply below_alloc | apply pw_below_drewN | apply below_drew1 | refine below_set ?_ GE145.out) | exact HB.out)) hb)
                clear HO_5
                clear HO_6
                clear BK145
                clear HB
                have HO_5 := n0_
                have HO_6 := n1_
                have BK145 := n2_
                have HB := n3_
                clear n0_ n1_ n2_ n3_
                (try clear hb)
                (try clear hb2)
                (try clear hk)
                (try clear hi)
                obtain ⟨Ao19, co19, eo19⟩ := Kd.R_slice HO_5.out
                (first | subst eo19 | (injection eo19 with f1_ f2_ f3_; have f4_ := f1_.symm; have f5_ := f3_.symm; clear f1_ f2_ f3_; subst f4_; subst f5_))
                refine hK.out _ _ ⟨(blk_cell BK145.out 0).trans rfl, (blk_cell BK145.out 1).trans rfl, (blk_cell BK145.out 2).trans rfl, (blk_cell BK145.out 3).trans rfl, (blk_cell BK145.out 4).trans rfl, (blk_cell BK145.out 5).trans rfl, (blk_cell BK145.out 6).trans rfl, (blk_cell BK145.out 7).trans rfl, (blk_cell BK145.out 8).trans rfl, (blk_cell BK145.out 9).trans rfl, (blk_cell BK145.out 10).trans rfl, (blk_cell BK145.out 11).trans rfl, (blk_cell BK145.out 12).trans rfl, (blk_cell BK145.out 13).trans rfl, (blk_cell BK145.out 14).trans rfl, (blk_cell BK145.out 15).trans rfl, (blk_cell BK145.out 16).trans rfl, (blk_cell BK145.out 17).trans rfl, (blk_cell BK145.out 18).trans rfl, HS19_, HS20_⟩ (fun hHeld => ?_)
                clear hK K
                refine norm_ (a' := ?_) ?_ ?_
                rotate_left
                · show Act.put _ (some 29) _ = _
                  simp only [Act.put, List.setIfInBounds_toArray, List.set_cons_zero, List.set_cons_succ, i64_w, i32_w]
                  rfl
                refine pure_ (i := 8) (N := some 30) (v := ?_) (a' := ?_) #[true, true, true, true, true, true, true, true, true, false, false, false, false, false, false, false, false] rfl rfl (any_of HT_.out (by kernel_rfl)) (fun _ _ _ h => h) (Or.inl ⟨by rfl, ?_⟩) ?_ ?_
                rotate_left
                · intro w'
                  go_simp
                  with_reducible rfl
                rotate_left
                · simp only [Act.put, List.setIfInBounds_toArray, List.set_cons_zero, List.set_cons_succ, i64_w, i32_w]
                  rfl
                refine pure_ (i := 9) (N := some 31) (v := ?_) (a' := ?_) #[true, true, true, true, true, true, true, true, true, true, false, false, false, false, false, false, false] rfl rfl (any_of HT_.out (by kernel_rfl)) (fun _ _ _ h => h) (Or.inl ⟨by rfl, ?_⟩) ?_ ?_
                rotate_left
                · intro w'
                  go_simp
                  with_reducible rfl
                rotate_left
                · simp only [Act.put, List.setIfInBounds_toArray, List.set_cons_zero, List.set_cons_succ, i64_w, i32_w]
                  rfl
                refine pure_ (i := 10) (N := some 32) (v := ?_) (a' := ?_) #[true, true, true, true, true, true, true, true, true, true, true, false, false, false, false, false, false] rfl rfl (any_of HT_.out (by kernel_rfl)) (fun _ _ _ h => h) (Or.inl ⟨by rfl, ?_⟩) ?_ ?_
                rotate_left
                · intro w'
                  go_simp
                  with_reducible rfl
                rotate_left
                · simp only [Act.put, List.setIfInBounds_toArray, List.set_cons_zero, List.set_cons_succ, i64_w, i32_w]
                  rfl
                refine pure_ (i := 11) (N := some 33) (v := ?_) (a' := ?_) #[true, true, true, true, true, true, true, true, true, true, true, true, false, false, false, false, false] rfl rfl (any_of HT_.out (by kernel_rfl)) (fun _ _ _ h => h) (Or.inl ⟨by rfl, ?_⟩) ?_ ?_
                rotate_left
                · intro w'
                  go_simp
                  with_reducible rfl
                rotate_left
                · simp only [Act.put, List.setIfInBounds_toArray, List.set_cons_zero, List.set_cons_succ, i64_w, i32_w]
                  rfl
                refine pure_ (i := 12) (N := some 34) (v := ?_) (a' := ?_) #[true, true, true, true, true, true, true, true, true, true, true, true, true, false, false, false, false] rfl rfl (any_of HT_.out (by kernel_rfl)) (fun _ _ _ h => h) (Or.inl ⟨by rfl, ?_⟩) ?_ ?_
                rotate_left
                · intro w'
                  go_simp
                  with_reducible rfl
                rotate_left
                · simp only [Act.put, List.setIfInBounds_toArray, List.set_cons_zero, List.set_cons_succ, i64_w, i32_w]
                  rfl
                refine take_ (i := 13) (N := some 35) (v := ?_) (a' := ?_) #[true, true, true, true, true, true, true, true, true, true, true, true, true, true, false, false, false] rfl rfl (take_ofW HT_.out HW_.out (by kernel_rfl)) (fun _ _ _ h => h) (Or.inl ⟨by rfl, ?_⟩) hHeld ?_ ?_
                rotate_left
                · rintro w' ⟨s0, s1, s2, s3, s4, s5, s6, s7, s8, s9, s10, s11, s12, s13, s14, s15, s16, s17, s18, s19, s20⟩
                  go_simp
                  with_reducible rfl
                rotate_left
                · simp only [Act.put, List.setIfInBounds_toArray, List.set_cons_zero, List.set_cons_succ, i64_w, i32_w]
                  rfl
                refine one_ (i := 14) (N := some 36) #[true, true, true, true, true, true, true, true, true, true, true, true, true, true, true, false, false] rfl rfl (one_of HT_.out (by kernel_rfl)) (by decide) (fun K hK => ?_)
                refine goes_ Try.func34 (by kernel_rfl) rfl #[.slice Ao19 x5_1.length co19, .int .i64 (rd y149 x7_1)] (by rfl) rfl rfl (by (try simp only [List.map_toArray, List.map_cons, List.map_nil]); first | done | rfl | (simp only [List.length_drop, List.length_take]; rfl)) ?_
                with_reducible refine (towncrierref01_Has.calls k1 _ _ x5_1 (rd y149 x7_1) true _ ?side1 ?side2 A14.out).mono ?_
                (case side1 => repeat (first | exact (Kd.R_reads' HO_5.out).2.2 | (with_reducible refine Kd.C_alloc ?_ _) | (with_reducible refine Kd.C_drewN ?_ _) | (with_reducible refine Kd.C_drew ?_)))
                (case side2 => exact (Kd.R_reads' HO_5.out).2.1)
                rintro e w' ⟨rfl, ⟨nd, rfl⟩⟩
                refine ⟨_, rfl, ?_⟩
                refine hK.out _ _ ⟨(blk_cell BK145.out 0).trans rfl, (blk_cell BK145.out 1).trans rfl, (blk_cell BK145.out 2).trans rfl, (blk_cell BK145.out 3).trans rfl, (blk_cell BK145.out 4).trans rfl, (blk_cell BK145.out 5).trans rfl, (blk_cell BK145.out 6).trans rfl, (blk_cell BK145.out 7).trans rfl, (blk_cell BK145.out 8).trans rfl, (blk_cell BK145.out 9).trans rfl, (blk_cell BK145.out 10).trans rfl, (blk_cell BK145.out 11).trans rfl, (blk_cell BK145.out 12).trans rfl, (blk_cell BK145.out 13).trans rfl, (blk_cell BK145.out 14).trans rfl, (blk_cell BK145.out 15).trans rfl, (blk_cell BK145.out 16).trans rfl, (blk_cell BK145.out 17).trans rfl, (blk_cell BK145.out 18).trans rfl, hHeld.2.2.2.2.2.2.2.2.2.2.2.2.2.2.2.2.2.2.2.1, hHeld.2.2.2.2.2.2.2.2.2.2.2.2.2.2.2.2.2.2.2.2⟩ (fun hHeld => ?_)
                clear hK K
                refine norm_ (a' := ?_) ?_ ?_
                rotate_left
                · show Act.put _ (some 36) _ = _
                  simp only [Act.put, List.setIfInBounds_toArray, List.set_cons_zero, List.set_cons_succ, i64_w, i32_w]
                  rfl
                refine pure_ (i := 15) (N := some 37) (v := ?_) (a' := ?_) #[true, true, true, true, true, true, true, true, true, true, true, true, true, true, true, true, false] rfl rfl (any_of HT_.out (by kernel_rfl)) (fun _ _ _ h => h) (Or.inl ⟨by rfl, ?_⟩) ?_ ?_
                rotate_left
                · intro w'
                  go_simp
                  with_reducible rfl
                rotate_left
                · simp only [Act.put, List.setIfInBounds_toArray, List.set_cons_zero, List.set_cons_succ, i64_w, i32_w]
                  rfl
                refine pure_ (i := 16) (N := some 38) (v := ?_) (a' := ?_) #[true, true, true, true, true, true, true, true, true, true, true, true, true, true, true, true, true] rfl rfl (any_of HT_.out (by kernel_rfl)) (fun _ _ _ h => h) (Or.inl ⟨by rfl, ?_⟩) ?_ ?_
                rotate_left
                · intro w'
                  go_simp
                  with_reducible rfl
                rotate_left
                · simp only [Act.put, List.setIfInBounds_toArray, List.set_cons_zero, List.set_cons_succ, i64_w, i32_w]
                  rfl
                refine done_ (done_of HT_.out (by kernel_rfl)) ?_
                try go_wp2
                go_roundg k1
                case measure => have := HK1.out; omega
                case rel => exact ⟨(x5_1), (wrap64 (x7_1 + 1)), (by first | rfl | (simp; done) | (simp [*]; done)), H', ⟨by have := HK1.out; omega⟩, ⟨by (with_reducible repeat (first | apply Kd.R_alloc | apply Kd.R_drewN | apply Kd.R_drew)); exact HO_5.out⟩, ⟨by (with_reducible repeat (first | apply Kd.R_alloc | apply Kd.R_drewN | apply Kd.R_drew)); exact HO_6.out⟩, ⟨by (with_reducible repeat (first | refine blk_drewN ?_ _ | refine blk_drew ?_ | refine blk_alloc ?_ _)); exact BK145.out⟩, ⟨by repeat (first | (with_reducible first | exact HB.out | apply below_alloc | apply pw_below_drewN | apply below_drew1 | refine below_set ?_ GE145.out) | exact HB.out)⟩⟩
              · replace c15 := Bool.eq_false_iff.mpr c15
                subst c15
                have H1 : (if x5_1.length < 17592186044416 then (towncrierref25_Leaks.l0 k1 l0 (x5_1 ++ [rd y149 x7_1]) y149 (wrap64 (x7_1 + 1)) a1_0 a1_1 a1_2 a1_3 a1_4 a1_5 a1_6 l1_7 a1_8 a1_9 a1_10 a1_11 a1_12 a1_13 a1_14 a1_15 a1_16 a1_17 a1_18) else (none)) = some r := by rw [if_neg (show ¬ (false = true) by decide)] at H; exact H
                clear H
                have H := H1
                clear H1
                by_cases c20 : x5_1.length < 17592186044416
                · rw [if_pos c20] at H
                  have LMc20 := Aside0.mk c20
                  clear c20
                  obtain ⟨y157, hy157⟩ : ∃ y_ : List Int, y_ = (x5_1 ++ [rd y149 x7_1]) := ⟨_, rfl⟩
                  replace H : (towncrierref25_Leaks.l0 k1 l0 y157 y149 (wrap64 (x7_1 + 1)) a1_0 a1_1 a1_2 a1_3 a1_4 a1_5 a1_6 l1_7 a1_8 a1_9 a1_10 a1_11 a1_12 a1_13 a1_14 a1_15 a1_16 a1_17 a1_18) = some r := by first | (rw [hy157]; with_reducible exact H) | (have H2_ := (Option.bind_some _ _).symm.trans H; rw [hy157]; with_reducible exact H2_) | (have H2_ := (Option.bind_some _ _).symm.trans H; with_reducible exact H2_) | with_reducible exact H | (rw [hy157]; exact H) | exact H
                  have Ny157 := Aside0.mk hy157
                  clear hy157
                  have H' := Aside0.mk H
                  clear H
                  obtain ⟨Ao21, co21, eo21⟩ := Kd.R_slice HO_6.out
                  subst eo21
                  try go_wp2
                  have n0_ := Aside0.mk (Kd.R_drew HO_5.out)
                  have n1_ := Aside0.mk (Kd.R_drew HO_6.out)
                  have n2_ := Aside0.mk (blk_drew BK145.out)
                  have n3_ := Aside0.mk (below_drew1 HB.out)
                  clear HO_5
                  clear HO_6
                  clear BK145
                  clear HB
                  have HO_5 := n0_
                  have HO_6 := n1_
                  have BK145 := n2_
                  have HB := n3_
                  clear n0_ n1_ n2_ n3_
                  have p152 : 0 ≤ (x7_1 : Int) := of_decide_eq_true (by first | (with_reducible assumption) | assumption)
                  have q152 : x7_1 < (y149.length : Int) := of_decide_eq_true (by first | (with_reducible assumption) | assumption)
                  obtain ⟨ad152, e152, hx152_0⟩ := Kd.at_int (Kd.R_reads' HO_6.out).2.2 x7_1 p152 q152
                  cases e152
                  replace p152 := eq_true p152
                  replace q152 := eq_true q152
                  have p154 : 0 ≤ (x7_1 : Int) := of_decide_eq_true (by first | (with_reducible assumption) | assumption)
                  have q154 : x7_1 < (y149.length : Int) := of_decide_eq_true (by first | (with_reducible assumption) | assumption)
                  obtain ⟨ad154, e154, hx154_0⟩ := Kd.at_int (Kd.R_reads' HO_6.out).2.2 x7_1 p154 q154
                  obtain rfl : ad152 = ad154 := (by injection e154)
                  replace p154 := eq_true p154
                  replace q154 := eq_true q154
                  refine start_ (n := 17) (S := fun w' => w'.cell? ⟨gb145, 0, none⟩ = some (.int .i64 a1_0) ∧ w'.cell? ⟨gb145, 1, none⟩ = some (.int .i64 a1_1) ∧ w'.cell? ⟨gb145, 2, none⟩ = some (.int .i64 a1_2) ∧ w'.cell? ⟨gb145, 3, none⟩ = some (.int .i64 a1_3) ∧ w'.cell? ⟨gb145, 4, none⟩ = some (.int .i64 a1_4) ∧ w'.cell? ⟨gb145, 5, none⟩ = some (.int .i64 a1_5) ∧ w'.cell? ⟨gb145, 6, none⟩ = some (.int .i64 a1_6) ∧ w'.cell? ⟨gb145, 7, none⟩ = some (.slice A1_7 l1_7.length c1_7) ∧ w'.cell? ⟨gb145, 8, none⟩ = some (.bool a1_8) ∧ w'.cell? ⟨gb145, 9, none⟩ = some (.bool a1_9) ∧ w'.cell? ⟨gb145, 10, none⟩ = some (.bool a1_10) ∧ w'.cell? ⟨gb145, 11, none⟩ = some (.bool a1_11) ∧ w'.cell? ⟨gb145, 12, none⟩ = some (.bool a1_12) ∧ w'.cell? ⟨gb145, 13, none⟩ = some (.bool a1_13) ∧ w'.cell? ⟨gb145, 14, none⟩ = some (.bool a1_14) ∧ w'.cell? ⟨gb145, 15, none⟩ = some (.bool a1_15) ∧ w'.cell? ⟨gb145, 16, none⟩ = some (.int .i64 a1_16) ∧ w'.cell? ⟨gb145, 17, none⟩ = some (.int .i64 a1_17) ∧ w'.cell? ⟨gb145, 18, none⟩ = some (.int .i64 a1_18) ∧ w'.cell? (ad152.add (x7_1).toNat) = some (.int .i64 (rd y149 x7_1)) ∧ w'.cell? (ad152.add (x7_1).toNat) = some (.int .i64 (rd y149 x7_1))) (ds := []) #[false, false, false, false, false, false, false, false, false, false, false, false, false, false, false, false, false] (by kernel_rfl) rfl rfl ⟨(blk_cell BK145.out 0).trans rfl, (blk_cell BK145.out 1).trans rfl, (blk_cell BK145.out 2).trans rfl, (blk_cell BK145.out 3).trans rfl, (blk_cell BK145.out 4).trans rfl, (blk_cell BK145.out 5).trans rfl, (blk_cell BK145.out 6).trans rfl, (blk_cell BK145.out 7).trans rfl, (blk_cell BK145.out 8).trans rfl, (blk_cell BK145.out 9).trans rfl, (blk_cell BK145.out 10).trans rfl, (blk_cell BK145.out 11).trans rfl, (blk_cell BK145.out 12).trans rfl, (blk_cell BK145.out 13).trans rfl, (blk_cell BK145.out 14).trans rfl, (blk_cell BK145.out 15).trans rfl, (blk_cell BK145.out 16).trans rfl, (blk_cell BK145.out 17).trans rfl, (blk_cell BK145.out 18).trans rfl, hx152_0, hx154_0⟩ (fun hHeld => ?_); refine with_tabW towncrierref25_Leaks.tab6 towncrierref25_Leaks.bits6 (fun HT_ HW_ => ?_)
                  generalize wr.drew = w22 at HO_5 HO_6 BK145 HB hx152_0 hx154_0 hHeld ⊢
                  refine pure_ (i := 0) (N := some 22) (v := ?_) (a' := ?_) #[true, false, false, false, false, false, false, false, false, false, false, false, false, false, false, false, false] rfl rfl (any_of HT_.out (by kernel_rfl)) (fun _ _ _ h => h) (Or.inl ⟨by rfl, ?_⟩) ?_ ?_
                  rotate_left
                  · intro w'
                    go_simp
                    with_reducible rfl
                  rotate_left
                  · simp only [Act.put, List.setIfInBounds_toArray, List.set_cons_zero, List.set_cons_succ, i64_w, i32_w]
                    rfl
                  refine pure_ (i := 1) (N := some 23) (v := ?_) (a' := ?_) #[true, true, false, false, false, false, false, false, false, false, false, false, false, false, false, false, false] rfl rfl (any_of HT_.out (by kernel_rfl)) (fun _ _ _ h => h) (Or.inl ⟨by rfl, ?_⟩) ?_ ?_
                  rotate_left
                  · intro w'
                    go_simp
                    with_reducible rfl
                  rotate_left
                  · simp only [Act.put, List.setIfInBounds_toArray, List.set_cons_zero, List.set_cons_succ, i64_w, i32_w]
                    rfl
                  refine pure_ (i := 2) (N := some 24) (v := ?_) (a' := ?_) #[true, true, true, false, false, false, false, false, false, false, false, false, false, false, false, false, false] rfl rfl (any_of HT_.out (by kernel_rfl)) (fun _ _ _ h => h) (Or.inl ⟨by rfl, ?_⟩) ?_ ?_
                  rotate_left
                  · intro w'
                    go_simp
                    with_reducible rfl
                  rotate_left
                  · simp only [Act.put, List.setIfInBounds_toArray, List.set_cons_zero, List.set_cons_succ, i64_w, i32_w]
                    rfl
                  refine pure_ (i := 3) (N := some 25) (v := ?_) (a' := ?_) #[true, true, true, true, false, false, false, false, false, false, false, false, false, false, false, false, false] rfl rfl (any_of HT_.out (by kernel_rfl)) (fun _ _ _ h => h) (Or.inl ⟨by rfl, ?_⟩) ?_ ?_
                  rotate_left
                  · intro w'
                    go_simp
                    with_reducible rfl
                  rotate_left
                  · simp only [Act.put, List.setIfInBounds_toArray, List.set_cons_zero, List.set_cons_succ, i64_w, i32_w]
                    rfl
                  refine pure_ (i := 5) (N := some 27) (v := ?_) (a' := ?_) #[true, true, true, true, false, true, false, false, false, false, false, false, false, false, false, false, false] rfl rfl (any_of HT_.out (by kernel_rfl)) (fun _ _ _ h => h) (Or.inl ⟨by rfl, ?_⟩) ?_ ?_
                  rotate_left
                  · intro w'
                    go_simp
                    with_reducible rfl
                  rotate_left
                  · simp only [Act.put, List.setIfInBounds_toArray, List.set_cons_zero, List.set_cons_succ, i64_w, i32_w]
                    rfl
                  refine take_ (i := 4) (N := some 26) (v := ?_) (a' := ?_) #[true, true, true, true, true, true, false, false, false, false, false, false, false, false, false, false, false] rfl rfl (take_ofW HT_.out HW_.out (by kernel_rfl)) (fun _ _ _ h => h) (Or.inl ⟨by rfl, ?_⟩) hHeld ?_ ?_
                  rotate_left
                  · rintro w' ⟨s0, s1, s2, s3, s4, s5, s6, s7, s8, s9, s10, s11, s12, s13, s14, s15, s16, s17, s18, s19, s20⟩
                    go_simp
                    with_reducible rfl
                  rotate_left
                  · simp only [Act.put, List.setIfInBounds_toArray, List.set_cons_zero, List.set_cons_succ, i64_w, i32_w]
                    rfl
                  refine take_ (i := 6) (N := some 28) (v := ?_) (a' := ?_) #[true, true, true, true, true, true, true, false, false, false, false, false, false, false, false, false, false] rfl rfl (take_ofW HT_.out HW_.out (by kernel_rfl)) (fun _ _ _ h => h) (Or.inl ⟨by rfl, ?_⟩) hHeld ?_ ?_
                  rotate_left
                  · rintro w' ⟨s0, s1, s2, s3, s4, s5, s6, s7, s8, s9, s10, s11, s12, s13, s14, s15, s16, s17, s18, s19, s20⟩
                    go_simp
                    with_reducible rfl
                  rotate_left
                  · simp only [Act.put, List.setIfInBounds_toArray, List.set_cons_zero, List.set_cons_succ, i64_w, i32_w]
                    rfl
                  refine one_ (i := 7) (N := some 29) #[true, true, true, true, true, true, true, true, false, false, false, false, false, false, false, false, false] rfl rfl (one_of HT_.out (by kernel_rfl)) (by decide) (fun K hK => ?_)
                  refine goes_ Try.func33 (by kernel_rfl) rfl #[.slice A0 l0.length c0, .int .i64 (rd y149 x7_1), .int .i64 a1_3] (by rfl) rfl rfl (by (try simp only [List.map_toArray, List.map_cons, List.map_nil]); first | done | rfl | (simp only [List.length_drop, List.length_take]; rfl)) ?_
                  with_reducible refine (towncrierref08_Hidden.calls k1 _ _ l0 (rd y149 x7_1) a1_3 true _ ?side1 ?side2 A12.out).mono ?_
                  (case side1 => repeat (first | exact (Kd.C_below HR0.out HB.out) | (with_reducible refine Kd.C_alloc ?_ _) | (with_reducible refine Kd.C_drewN ?_ _) | (with_reducible refine Kd.C_drew ?_)))
                  (case side2 => exact HC0.out)
                  rintro e w23 ⟨rfl, hb⟩
                  have HS19_ := (hb.cell (World.block_lt_of_cell? _ _ (hHeld.2.2.2.2.2.2.2.2.2.2.2.2.2.2.2.2.2.2.2.1))).trans (hHeld.2.2.2.2.2.2.2.2.2.2.2.2.2.2.2.2.2.2.2.1)
                  have HS20_ := (hb.cell (World.block_lt_of_cell? _ _ (hHeld.2.2.2.2.2.2.2.2.2.2.2.2.2.2.2.2.2.2.2.2))).trans (hHeld.2.2.2.2.2.2.2.2.2.2.2.2.2.2.2.2.2.2.2.2)
                  refine ⟨_, rfl, ?_⟩
                  have n0_ := Aside0.mk (Kd.R_below (by (with_reducible repeat (first | apply Kd.R_alloc | apply Kd.R_drewN | apply Kd.R_drew)); exact HO_5.out) hb)
                  have n1_ := Aside0.mk (Kd.R_below (by (with_reducible repeat (first | apply Kd.R_alloc | apply Kd.R_drewN | apply Kd.R_drew)); exact HO_6.out) hb)
                  have n2_ := Aside0.mk (blk_below (g := gb145) (o := .cells #[.int .i64 a1_0, .int .i64 a1_1, .int .i64 a1_2, .int .i64 a1_3, .int .i64 a1_4, .int .i64 a1_5, .int .i64 a1_6, .slice A1_7 l1_7.length c1_7, .bool a1_8, .bool a1_9, .bool a1_10, .bool a1_11, .bool a1_12, .bool a1_13, .bool a1_14, .bool a1_15, .int .i64 a1_16, .int .i64 a1_17, .int .i64 a1_18] 34 (0, 0)) (by (with_reducible repeat (first | refine blk_drewN ?_ _ | refine blk_drew ?_ | refine blk_alloc ?_ _)); exact BK145.out) hb)
                  have n3_ := Aside0.mk (below_step (by repeat (first | (with_reducible first | exact HB.out | apply below_alloc | apply pw_below_drewN | apply below_drew1 | refine below_set ?_ GE145.out) | exact HB.out)) hb)
                  clear HO_5
                  clear HO_6
                  clear BK145
                  clear HB
                  have HO_5 := n0_
                  have HO_6 := n1_
                  have BK145 := n2_
                  have HB := n3_
                  clear n0_ n1_ n2_ n3_
                  (try clear hb)
                  (try clear hb2)
                  (try clear hk)
                  (try clear hi)
                  obtain ⟨Ao24, co24, eo24⟩ := Kd.R_slice HO_5.out
                  (first | subst eo24 | (injection eo24 with f1_ f2_ f3_; have f4_ := f1_.symm; have f5_ := f3_.symm; clear f1_ f2_ f3_; subst f4_; subst f5_))
                  refine hK.out _ _ ⟨(blk_cell BK145.out 0).trans rfl, (blk_cell BK145.out 1).trans rfl, (blk_cell BK145.out 2).trans rfl, (blk_cell BK145.out 3).trans rfl, (blk_cell BK145.out 4).trans rfl, (blk_cell BK145.out 5).trans rfl, (blk_cell BK145.out 6).trans rfl, (blk_cell BK145.out 7).trans rfl, (blk_cell BK145.out 8).trans rfl, (blk_cell BK145.out 9).trans rfl, (blk_cell BK145.out 10).trans rfl, (blk_cell BK145.out 11).trans rfl, (blk_cell BK145.out 12).trans rfl, (blk_cell BK145.out 13).trans rfl, (blk_cell BK145.out 14).trans rfl, (blk_cell BK145.out 15).trans rfl, (blk_cell BK145.out 16).trans rfl, (blk_cell BK145.out 17).trans rfl, (blk_cell BK145.out 18).trans rfl, HS19_, HS20_⟩ (fun hHeld => ?_)
                  clear hK K
                  refine norm_ (a' := ?_) ?_ ?_
                  rotate_left
                  · show Act.put _ (some 29) _ = _
                    simp only [Act.put, List.setIfInBounds_toArray, List.set_cons_zero, List.set_cons_succ, i64_w, i32_w]
                    rfl
                  refine pure_ (i := 8) (N := some 30) (v := ?_) (a' := ?_) #[true, true, true, true, true, true, true, true, true, false, false, false, false, false, false, false, false] rfl rfl (any_of HT_.out (by kernel_rfl)) (fun _ _ _ h => h) (Or.inl ⟨by rfl, ?_⟩) ?_ ?_
                  rotate_left
                  · intro w'
                    go_simp
                    with_reducible rfl
                  rotate_left
                  · simp only [Act.put, List.setIfInBounds_toArray, List.set_cons_zero, List.set_cons_succ, i64_w, i32_w]
                    rfl
                  refine pure_ (i := 9) (N := some 31) (v := ?_) (a' := ?_) #[true, true, true, true, true, true, true, true, true, true, false, false, false, false, false, false, false] rfl rfl (any_of HT_.out (by kernel_rfl)) (fun _ _ _ h => h) (Or.inl ⟨by rfl, ?_⟩) ?_ ?_
                  rotate_left
                  · intro w'
                    go_simp
                    with_reducible rfl
                  rotate_left
                  · simp only [Act.put, List.setIfInBounds_toArray, List.set_cons_zero, List.set_cons_succ, i64_w, i32_w]
                    rfl
                  refine pure_ (i := 10) (N := some 32) (v := ?_) (a' := ?_) #[true, true, true, true, true, true, true, true, true, true, true, false, false, false, false, false, false] rfl rfl (any_of HT_.out (by kernel_rfl)) (fun _ _ _ h => h) (Or.inl ⟨by rfl, ?_⟩) ?_ ?_
                  rotate_left
                  · intro w'
                    go_simp
                    with_reducible rfl
                  rotate_left
                  · simp only [Act.put, List.setIfInBounds_toArray, List.set_cons_zero, List.set_cons_succ, i64_w, i32_w]
                    rfl
                  refine pure_ (i := 11) (N := some 33) (v := ?_) (a' := ?_) #[true, true, true, true, true, true, true, true, true, true, true, true, false, false, false, false, false] rfl rfl (any_of HT_.out (by kernel_rfl)) (fun _ _ _ h => h) (Or.inl ⟨by rfl, ?_⟩) ?_ ?_
                  rotate_left
                  · intro w'
                    go_simp
                    with_reducible rfl
                  rotate_left
                  · simp only [Act.put, List.setIfInBounds_toArray, List.set_cons_zero, List.set_cons_succ, i64_w, i32_w]
                    rfl
                  refine pure_ (i := 12) (N := some 34) (v := ?_) (a' := ?_) #[true, true, true, true, true, true, true, true, true, true, true, true, true, false, false, false, false] rfl rfl (any_of HT_.out (by kernel_rfl)) (fun _ _ _ h => h) (Or.inl ⟨by rfl, ?_⟩) ?_ ?_
                  rotate_left
                  · intro w'
                    go_simp
                    with_reducible rfl
                  rotate_left
                  · simp only [Act.put, List.setIfInBounds_toArray, List.set_cons_zero, List.set_cons_succ, i64_w, i32_w]
                    rfl
                  refine take_ (i := 13) (N := some 35) (v := ?_) (a' := ?_) #[true, true, true, true, true, true, true, true, true, true, true, true, true, true, false, false, false] rfl rfl (take_ofW HT_.out HW_.out (by kernel_rfl)) (fun _ _ _ h => h) (Or.inl ⟨by rfl, ?_⟩) hHeld ?_ ?_
                  rotate_left
                  · rintro w' ⟨s0, s1, s2, s3, s4, s5, s6, s7, s8, s9, s10, s11, s12, s13, s14, s15, s16, s17, s18, s19, s20⟩
                    go_simp
                    with_reducible rfl
                  rotate_left
                  · simp only [Act.put, List.setIfInBounds_toArray, List.set_cons_zero, List.set_cons_succ, i64_w, i32_w]
                    rfl
                  refine one_ (i := 14) (N := some 36) #[true, true, true, true, true, true, true, true, true, true, true, true, true, true, true, false, false] rfl rfl (one_of HT_.out (by kernel_rfl)) (by decide) (fun K hK => ?_)
                  refine goes_ Try.func34 (by kernel_rfl) rfl #[.slice Ao24 x5_1.length co24, .int .i64 (rd y149 x7_1)] (by rfl) rfl rfl (by (try simp only [List.map_toArray, List.map_cons, List.map_nil]); first | done | rfl | (simp only [List.length_drop, List.length_take]; rfl)) ?_
                  with_reducible refine (towncrierref01_Has.calls k1 _ _ x5_1 (rd y149 x7_1) false _ ?side1 ?side2 A14.out).mono ?_
                  (case side1 => repeat (first | exact (Kd.R_reads' HO_5.out).2.2 | (with_reducible refine Kd.C_alloc ?_ _) | (with_reducible refine Kd.C_drewN ?_ _) | (with_reducible refine Kd.C_drew ?_)))
                  (case side2 => exact (Kd.R_reads' HO_5.out).2.1)
                  rintro e w' ⟨rfl, ⟨nd, rfl⟩⟩
                  refine ⟨_, rfl, ?_⟩
                  refine hK.out _ _ ⟨(blk_cell BK145.out 0).trans rfl, (blk_cell BK145.out 1).trans rfl, (blk_cell BK145.out 2).trans rfl, (blk_cell BK145.out 3).trans rfl, (blk_cell BK145.out 4).trans rfl, (blk_cell BK145.out 5).trans rfl, (blk_cell BK145.out 6).trans rfl, (blk_cell BK145.out 7).trans rfl, (blk_cell BK145.out 8).trans rfl, (blk_cell BK145.out 9).trans rfl, (blk_cell BK145.out 10).trans rfl, (blk_cell BK145.out 11).trans rfl, (blk_cell BK145.out 12).trans rfl, (blk_cell BK145.out 13).trans rfl, (blk_cell BK145.out 14).trans rfl, (blk_cell BK145.out 15).trans rfl, (blk_cell BK145.out 16).trans rfl, (blk_cell BK145.out 17).trans rfl, (blk_cell BK145.out 18).trans rfl, hHeld.2.2.2.2.2.2.2.2.2.2.2.2.2.2.2.2.2.2.2.1, hHeld.2.2.2.2.2.2.2.2.2.2.2.2.2.2.2.2.2.2.2.2⟩ (fun hHeld => ?_)
                  clear hK K
                  refine norm_ (a' := ?_) ?_ ?_
                  rotate_left
                  · show Act.put _ (some 36) _ = _
                    simp only [Act.put, List.setIfInBounds_toArray, List.set_cons_zero, List.set_cons_succ, i64_w, i32_w]
                    rfl
                  refine pure_ (i := 15) (N := some 37) (v := ?_) (a' := ?_) #[true, true, true, true, true, true, true, true, true, true, true, true, true, true, true, true, false] rfl rfl (any_of HT_.out (by kernel_rfl)) (fun _ _ _ h => h) (Or.inl ⟨by rfl, ?_⟩) ?_ ?_
                  rotate_left
                  · intro w'
                    go_simp
                    with_reducible rfl
                  rotate_left
                  · simp only [Act.put, List.setIfInBounds_toArray, List.set_cons_zero, List.set_cons_succ, i64_w, i32_w]
                    rfl
                  refine pure_ (i := 16) (N := some 38) (v := ?_) (a' := ?_) #[true, true, true, true, true, true, true, true, true, true, true, true, true, true, true, true, true] rfl rfl (any_of HT_.out (by kernel_rfl)) (fun _ _ _ h => h) (Or.inl ⟨by rfl, ?_⟩) ?_ ?_
                  rotate_left
                  · intro w'
                    go_simp
                    with_reducible rfl
                  rotate_left
                  · simp only [Act.put, List.setIfInBounds_toArray, List.set_cons_zero, List.set_cons_succ, i64_w, i32_w]
                    rfl
                  refine done_ (done_of HT_.out (by kernel_rfl)) ?_
                  have p156 : 0 ≤ (x7_1 : Int) := of_decide_eq_true (by first | (with_reducible assumption) | assumption)
                  have q156 : x7_1 < (y149.length : Int) := of_decide_eq_true (by first | (with_reducible assumption) | assumption)
                  obtain ⟨ad156, e156, hx156_0⟩ := Kd.at_int (Kd.R_reads' HO_6.out).2.2 x7_1 p156 q156
                  obtain rfl : ad152 = ad156 := (by injection e156)
                  replace p156 := eq_true p156
                  replace q156 := eq_true q156
                  try go_wp2_with (first | ((with_reducible refine gate_builtin (b := .append) (xs := #[.tmp 39, .tmp 44]) rfl ?_); at_builtin; refine Kd.R_append (Kd.int .i64) (w0 := w) w.heap.size rfl (.tmp 39) (.tmp 44) 29 3 (.int .i64 0) 8 rfl Try.underlying29 info3 rfl (by decide) (by omega) (.slice Ao24 x5_1.length co24) x5_1 (rd y149 x7_1) [.int .i64 (rd y149 x7_1)] (fun k_ => some k_ ≠ (.slice (some ad152) y149.length co21 : Value).ownBlock) (fun _ => False) rfl rfl ?aP (fun _ hk => hk.elim) ?aF ?aO ?aB ?aS ?aL ?_; (case aP => exact rfl); (case aB => exact (by repeat (first | (with_reducible first | exact HB.out | apply below_alloc | apply pw_below_drewN | apply below_drew1 | refine below_set ?_ GE145.out) | exact HB.out))); (case aF => exact (fun k_ hk => Kd.fresh' (Kd.R_lt (by (with_reducible repeat (first | apply Kd.R_alloc | apply Kd.R_drewN | apply Kd.R_drew)); exact HO_6.out)) k_ hk)); (case aO => exact (by (with_reducible repeat (first | apply Kd.R_alloc | apply Kd.R_drewN | apply Kd.R_drew)); exact HO_5.out)); (case aS => exact (below_size (by repeat (first | (with_reducible first | exact HB.out | apply below_alloc | apply pw_below_drewN | apply below_drew1 | refine below_set ?_ GE145.out) | exact HB.out)))); (case aL => have := LMc20.out; omega); intro v158 w25 ho hb hg hat; rw [← Ny157.out] at ho; have n0_ := Aside0.mk (Kd.R_after (ok := (fun _ => True)) (by (with_reducible repeat (first | apply Kd.R_alloc | apply Kd.R_drewN | apply Kd.R_drew)); exact Kd.R_mono HO_6.out (fun _ hk => ⟨trivial, hk⟩)) hg hat); have n1_ := Aside0.mk (blk_grown (g := gb145) (o := .cells #[.int .i64 a1_0, .int .i64 a1_1, .int .i64 a1_2, .int .i64 a1_3, .int .i64 a1_4, .int .i64 a1_5, .int .i64 a1_6, .slice A1_7 l1_7.length c1_7, .bool a1_8, .bool a1_9, .bool a1_10, .bool a1_11, .bool a1_12, .bool a1_13, .bool a1_14, .bool a1_15, .int .i64 a1_16, .int .i64 a1_17, .int .i64 a1_18] 34 (0, 0)) (by (with_reducible repeat (first | refine blk_drewN ?_ _ | refine blk_drew ?_ | refine blk_alloc ?_ _)); exact BK145.out) hg (Kd.R_ne HO_5.out BK145.out (by decide))); have n2_ := Aside0.mk (hb); have n3_ := Aside0.mk (ho); clear HO_6; clear BK145; clear HB; clear HO_5; have HO_6 := n0_; have BK145 := n1_; have HB := n2_; have HO159 := n3_; clear n0_ n1_ n2_ n3_; clear ho hb hg hat))
                  go_roundg k1
                  case measure => have := HK1.out; omega
                  case rel => exact ⟨(y157), (wrap64 (x7_1 + 1)), (by first | rfl | (simp; done) | (simp [*]; done)), H', ⟨by have := HK1.out; omega⟩, ⟨by (with_reducible repeat (first | apply Kd.R_alloc | apply Kd.R_drewN | apply Kd.R_drew)); exact HO159.out⟩, ⟨by (with_reducible repeat (first | apply Kd.R_alloc | apply Kd.R_drewN | apply Kd.R_drew)); exact Kd.R_mono HO_6.out (fun _ hk => hk.2)⟩, ⟨by (with_reducible repeat (first | refine blk_drewN ?_ _ | refine blk_drew ?_ | refine blk_alloc ?_ _)); exact BK145.out⟩, ⟨by repeat (first | (with_reducible first | exact HB.out | apply below_alloc | apply pw_below_drewN | apply below_drew1 | refine below_set ?_ GE145.out) | exact HB.out)⟩⟩
                · rw [if_neg c20] at H
                  exact absurd H (by simp)
            · replace c13 := Bool.eq_false_iff.mpr c13
              subst c13
              have H1 : (towncrierref25_Leaks.l0 k1 l0 x5_1 y149 (wrap64 (x7_1 + 1)) a1_0 a1_1 a1_2 a1_3 a1_4 a1_5 a1_6 l1_7 a1_8 a1_9 a1_10 a1_11 a1_12 a1_13 a1_14 a1_15 a1_16 a1_17 a1_18) = some r := by rw [if_neg (show ¬ (false = true) by decide)] at H; exact H
              clear H
              have H := H1
              clear H1
              have H' := Aside0.mk H
              clear H
              obtain ⟨Ao26, co26, eo26⟩ := Kd.R_slice HO_6.out
              subst eo26
              try go_wp2
              have n0_ := Aside0.mk (Kd.R_drew HO_5.out)
              have n1_ := Aside0.mk (Kd.R_drew HO_6.out)
              have n2_ := Aside0.mk (blk_drew BK145.out)
              have n3_ := Aside0.mk (below_drew1 HB.out)
              clear HO_5
              clear HO_6
              clear BK145
              clear HB
              have HO_5 := n0_
              have HO_6 := n1_
              have BK145 := n2_
              have HB := n3_
              clear n0_ n1_ n2_ n3_
              have p152 : 0 ≤ (x7_1 : Int) := of_decide_eq_true (by first | (with_reducible assumption) | assumption)
              have q152 : x7_1 < (y149.length : Int) := of_decide_eq_true (by first | (with_reducible assumption) | assumption)
              obtain ⟨ad152, e152, hx152_0⟩ := Kd.at_int (Kd.R_reads' HO_6.out).2.2 x7_1 p152 q152
              cases e152
              replace p152 := eq_true p152
              replace q152 := eq_true q152
              refine start_ (n := 17) (S := fun w' => w'.cell? ⟨gb145, 0, none⟩ = some (.int .i64 a1_0) ∧ w'.cell? ⟨gb145, 1, none⟩ = some (.int .i64 a1_1) ∧ w'.cell? ⟨gb145, 2, none⟩ = some (.int .i64 a1_2) ∧ w'.cell? ⟨gb145, 3, none⟩ = some (.int .i64 a1_3) ∧ w'.cell? ⟨gb145, 4, none⟩ = some (.int .i64 a1_4) ∧ w'.cell? ⟨gb145, 5, none⟩ = some (.int .i64 a1_5) ∧ w'.cell? ⟨gb145, 6, none⟩ = some (.int .i64 a1_6) ∧ w'.cell? ⟨gb145, 7, none⟩ = some (.slice A1_7 l1_7.length c1_7) ∧ w'.cell? ⟨gb145, 8, none⟩ = some (.bool a1_8) ∧ w'.cell? ⟨gb145, 9, none⟩ = some (.bool a1_9) ∧ w'.cell? ⟨gb145, 10, none⟩ = some (.bool a1_10) ∧ w'.cell? ⟨gb145, 11, none⟩ = some (.bool a1_11) ∧ w'.cell? ⟨gb145, 12, none⟩ = some (.bool a1_12) ∧ w'.cell? ⟨gb145, 13, none⟩ = some (.bool a1_13) ∧ w'.cell? ⟨gb145, 14, none⟩ = some (.bool a1_14) ∧ w'.cell? ⟨gb145, 15, none⟩ = some (.bool a1_15) ∧ w'.cell? ⟨gb145, 16, none⟩ = some (.int .i64 a1_16) ∧ w'.cell? ⟨gb145, 17, none⟩ = some (.int .i64 a1_17) ∧ w'.cell? ⟨gb145, 18, none⟩ = some (.int .i64 a1_18) ∧ w'.cell? (ad152.add (x7_1).toNat) = some (.int .i64 (rd y149 x7_1))) (ds := []) #[false, false, false, false, false, false, false, false, false, false, false, false, false, false, false, false, false] (by kernel_rfl) rfl rfl ⟨(blk_cell BK145.out 0).trans rfl, (blk_cell BK145.out 1).trans rfl, (blk_cell BK145.out 2).trans rfl, (blk_cell BK145.out 3).trans rfl, (blk_cell BK145.out 4).trans rfl, (blk_cell BK145.out 5).trans rfl, (blk_cell BK145.out 6).trans rfl, (blk_cell BK145.out 7).trans rfl, (blk_cell BK145.out 8).trans rfl, (blk_cell BK145.out 9).trans rfl, (blk_cell BK145.out 10).trans rfl, (blk_cell BK145.out 11).trans rfl, (blk_cell BK145.out 12).trans rfl, (blk_cell BK145.out 13).trans rfl, (blk_cell BK145.out 14).trans rfl, (blk_cell BK145.out 15).trans rfl, (blk_cell BK145.out 16).trans rfl, (blk_cell BK145.out 17).trans rfl, (blk_cell BK145.out 18).trans rfl, hx152_0⟩ (fun hHeld => ?_); refine with_tabW towncrierref25_Leaks.tab6 towncrierref25_Leaks.bits6 (fun HT_ HW_ => ?_)
              generalize wr.drew = w27 at HO_5 HO_6 BK145 HB hx152_0 hHeld ⊢
              refine pure_ (i := 0) (N := some 22) (v := ?_) (a' := ?_) #[true, false, false, false, false, false, false, false, false, false, false, false, false, false, false, false, false] rfl rfl (any_of HT_.out (by kernel_rfl)) (fun _ _ _ h => h) (Or.inl ⟨by rfl, ?_⟩) ?_ ?_
              rotate_left
              · intro w'
                go_simp
                with_reducible rfl
              rotate_left
              · simp only [Act.put, List.setIfInBounds_toArray, List.set_cons_zero, List.set_cons_succ, i64_w, i32_w]
                rfl
              refine pure_ (i := 1) (N := some 23) (v := ?_) (a' := ?_) #[true, true, false, false, false, false, false, false, false, false, false, false, false, false, false, false, false] rfl rfl (any_of HT_.out (by kernel_rfl)) (fun _ _ _ h => h) (Or.inl ⟨by rfl, ?_⟩) ?_ ?_
              rotate_left
              · intro w'
                go_simp
                with_reducible rfl
              rotate_left
              · simp only [Act.put, List.setIfInBounds_toArray, List.set_cons_zero, List.set_cons_succ, i64_w, i32_w]
                rfl
              refine pure_ (i := 2) (N := some 24) (v := ?_) (a' := ?_) #[true, true, true, false, false, false, false, false, false, false, false, false, false, false, false, false, false] rfl rfl (any_of HT_.out (by kernel_rfl)) (fun _ _ _ h => h) (Or.inl ⟨by rfl, ?_⟩) ?_ ?_
              rotate_left
              · intro w'
                go_simp
                with_reducible rfl
              rotate_left
              · simp only [Act.put, List.setIfInBounds_toArray, List.set_cons_zero, List.set_cons_succ, i64_w, i32_w]
                rfl
              refine pure_ (i := 3) (N := some 25) (v := ?_) (a' := ?_) #[true, true, true, true, false, false, false, false, false, false, false, false, false, false, false, false, false] rfl rfl (any_of HT_.out (by kernel_rfl)) (fun _ _ _ h => h) (Or.inl ⟨by rfl, ?_⟩) ?_ ?_
              rotate_left
              · intro w'
                go_simp
                with_reducible rfl
              rotate_left
              · simp only [Act.put, List.setIfInBounds_toArray, List.set_cons_zero, List.set_cons_succ, i64_w, i32_w]
                rfl
              refine pure_ (i := 5) (N := some 27) (v := ?_) (a' := ?_) #[true, true, true, true, false, true, false, false, false, false, false, false, false, false, false, false, false] rfl rfl (any_of HT_.out (by kernel_rfl)) (fun _ _ _ h => h) (Or.inl ⟨by rfl, ?_⟩) ?_ ?_
              rotate_left
              · intro w'
                go_simp
                with_reducible rfl
              rotate_left
              · simp only [Act.put, List.setIfInBounds_toArray, List.set_cons_zero, List.set_cons_succ, i64_w, i32_w]
                rfl
              refine take_ (i := 4) (N := some 26) (v := ?_) (a' := ?_) #[true, true, true, true, true, true, false, false, false, false, false, false, false, false, false, false, false] rfl rfl (take_ofW HT_.out HW_.out (by kernel_rfl)) (fun _ _ _ h => h) (Or.inl ⟨by rfl, ?_⟩) hHeld ?_ ?_
              rotate_left
              · rintro w' ⟨s0, s1, s2, s3, s4, s5, s6, s7, s8, s9, s10, s11, s12, s13, s14, s15, s16, s17, s18, s19⟩
                go_simp
                with_reducible rfl
              rotate_left
              · simp only [Act.put, List.setIfInBounds_toArray, List.set_cons_zero, List.set_cons_succ, i64_w, i32_w]
                rfl
              refine take_ (i := 6) (N := some 28) (v := ?_) (a' := ?_) #[true, true, true, true, true, true, true, false, false, false, false, false, false, false, false, false, false] rfl rfl (take_ofW HT_.out HW_.out (by kernel_rfl)) (fun _ _ _ h => h) (Or.inl ⟨by rfl, ?_⟩) hHeld ?_ ?_
              rotate_left
              · rintro w' ⟨s0, s1, s2, s3, s4, s5, s6, s7, s8, s9, s10, s11, s12, s13, s14, s15, s16, s17, s18, s19⟩
                go_simp
                with_reducible rfl
              rotate_left
              · simp only [Act.put, List.setIfInBounds_toArray, List.set_cons_zero, List.set_cons_succ, i64_w, i32_w]
                rfl
              refine one_ (i := 7) (N := some 29) #[true, true, true, true, true, true, true, true, false, false, false, false, false, false, false, false, false] rfl rfl (one_of HT_.out (by kernel_rfl)) (by decide) (fun K hK => ?_)
              refine goes_ Try.func33 (by kernel_rfl) rfl #[.slice A0 l0.length c0, .int .i64 (rd y149 x7_1), .int .i64 a1_3] (by rfl) rfl rfl (by (try simp only [List.map_toArray, List.map_cons, List.map_nil]); first | done | rfl | (simp only [List.length_drop, List.length_take]; rfl)) ?_
              with_reducible refine (towncrierref08_Hidden.calls k1 _ _ l0 (rd y149 x7_1) a1_3 false _ ?side1 ?side2 A12.out).mono ?_
              (case side1 => repeat (first | exact (Kd.C_below HR0.out HB.out) | (with_reducible refine Kd.C_alloc ?_ _) | (with_reducible refine Kd.C_drewN ?_ _) | (with_reducible refine Kd.C_drew ?_)))
              (case side2 => exact HC0.out)
              rintro e w28 ⟨rfl, hb⟩
              have HS19_ := (hb.cell (World.block_lt_of_cell? _ _ (hHeld.2.2.2.2.2.2.2.2.2.2.2.2.2.2.2.2.2.2.2))).trans (hHeld.2.2.2.2.2.2.2.2.2.2.2.2.2.2.2.2.2.2.2)
              refine ⟨_, rfl, ?_⟩
              have n0_ := Aside0.mk (Kd.R_below (by (with_reducible repeat (first | apply Kd.R_alloc | apply Kd.R_drewN | apply Kd.R_drew)); exact HO_5.out) hb)
              have n1_ := Aside0.mk (Kd.R_below (by (with_reducible repeat (first | apply Kd.R_alloc | apply Kd.R_drewN | apply Kd.R_drew)); exact HO_6.out) hb)
              have n2_ := Aside0.mk (blk_below (g := gb145) (o := .cells #[.int .i64 a1_0, .int .i64 a1_1, .int .i64 a1_2, .int .i64 a1_3, .int .i64 a1_4, .int .i64 a1_5, .int .i64 a1_6, .slice A1_7 l1_7.length c1_7, .bool a1_8, .bool a1_9, .bool a1_10, .bool a1_11, .bool a1_12, .bool a1_13, .bool a1_14, .bool a1_15, .int .i64 a1_16, .int .i64 a1_17, .int .i64 a1_18] 34 (0, 0)) (by (with_reducible repeat (first | refine blk_drewN ?_ _ | refine blk_drew ?_ | refine blk_alloc ?_ _)); exact BK145.out) hb)
              have n3_ := Aside0.mk (below_step (by repeat (first | (with_reducible first | exact HB.out | apply below_alloc | apply pw_below_drewN | apply below_drew1 | refine below_set ?_ GE145.out) | exact HB.out)) hb)
              clear HO_5
              clear HO_6
              clear BK145
              clear HB
              have HO_5 := n0_
              have HO_6 := n1_
              have BK145 := n2_
              have HB := n3_
              clear n0_ n1_ n2_ n3_
              (try clear hb)
              (try clear hb2)
              (try clear hk)
              (try clear hi)
              refine hK.out _ _ ⟨(blk_cell BK145.out 0).trans rfl, (blk_cell BK145.out 1).trans rfl, (blk_cell BK145.out 2).trans rfl, (blk_cell BK145.out 3).trans rfl, (blk_cell BK145.out 4).trans rfl, (blk_cell BK145.out 5).trans rfl, (blk_cell BK145.out 6).trans rfl, (blk_cell BK145.out 7).trans rfl, (blk_cell BK145.out 8).trans rfl, (blk_cell BK145.out 9).trans rfl, (blk_cell BK145.out 10).trans rfl, (blk_cell BK145.out 11).trans rfl, (blk_cell BK145.out 12).trans rfl, (blk_cell BK145.out 13).trans rfl, (blk_cell BK145.out 14).trans rfl, (blk_cell BK145.out 15).trans rfl, (blk_cell BK145.out 16).trans rfl, (blk_cell BK145.out 17).trans rfl, (blk_cell BK145.out 18).trans rfl, HS19_⟩ (fun hHeld => ?_)
              clear hK K
              refine norm_ (a' := ?_) ?_ ?_
              rotate_left
              · show Act.put _ (some 29) _ = _
                simp only [Act.put, List.setIfInBounds_toArray, List.set_cons_zero, List.set_cons_succ, i64_w, i32_w]
                rfl
              refine pure_ (i := 8) (N := some 30) (v := ?_) (a' := ?_) #[true, true, true, true, true, true, true, true, true, false, false, false, false, false, false, false, false] rfl rfl (any_of HT_.out (by kernel_rfl)) (fun _ _ _ h => h) (Or.inl ⟨by rfl, ?_⟩) ?_ ?_
              rotate_left
              · intro w'
                go_simp
                with_reducible rfl
              rotate_left
              · simp only [Act.put, List.setIfInBounds_toArray, List.set_cons_zero, List.set_cons_succ, i64_w, i32_w]
                rfl
              refine pure_ (i := 9) (N := some 31) (v := undef) (a' := ?_) #[true, true, true, true, true, true, true, true, true, true, false, false, false, false, false, false, false] rfl rfl (any_of HT_.out (by kernel_rfl)) (fun _ _ _ h => h) (Or.inr ⟨by rfl, rfl⟩) ?_ ?_
              rotate_left
              · simp only [Act.put, List.setIfInBounds_toArray, List.set_cons_zero, List.set_cons_succ, i64_w, i32_w]
                rfl
              refine pure_ (i := 10) (N := some 32) (v := undef) (a' := ?_) #[true, true, true, true, true, true, true, true, true, true, true, false, false, false, false, false, false] rfl rfl (any_of HT_.out (by kernel_rfl)) (fun _ _ _ h => h) (Or.inr ⟨by rfl, rfl⟩) ?_ ?_
              rotate_left
              · simp only [Act.put, List.setIfInBounds_toArray, List.set_cons_zero, List.set_cons_succ, i64_w, i32_w]
                rfl
              refine pure_ (i := 11) (N := some 33) (v := undef) (a' := ?_) #[true, true, true, true, true, true, true, true, true, true, true, true, false, false, false, false, false] rfl rfl (any_of HT_.out (by kernel_rfl)) (fun _ _ _ h => h) (Or.inr ⟨by rfl, rfl⟩) ?_ ?_
              rotate_left
              · simp only [Act.put, List.setIfInBounds_toArray, List.set_cons_zero, List.set_cons_succ, i64_w, i32_w]
                rfl
              refine pure_ (i := 12) (N := some 34) (v := undef) (a' := ?_) #[true, true, true, true, true, true, true, true, true, true, true, true, true, false, false, false, false] rfl rfl (any_of HT_.out (by kernel_rfl)) (fun _ _ _ h => h) (Or.inr ⟨by rfl, rfl⟩) ?_ ?_
              rotate_left
              · simp only [Act.put, List.setIfInBounds_toArray, List.set_cons_zero, List.set_cons_succ, i64_w, i32_w]
                rfl
              refine pure_ (i := 13) (N := some 35) (v := undef) (a' := ?_) #[true, true, true, true, true, true, true, true, true, true, true, true, true, true, false, false, false] rfl rfl (any_of HT_.out (by kernel_rfl)) (fun _ _ _ h => h) (Or.inr ⟨by rfl, rfl⟩) ?_ ?_
              rotate_left
              · simp only [Act.put, List.setIfInBounds_toArray, List.set_cons_zero, List.set_cons_succ, i64_w, i32_w]
                rfl
              refine pure_ (i := 14) (N := some 36) (v := undef) (a' := ?_) #[true, true, true, true, true, true, true, true, true, true, true, true, true, true, true, false, false] rfl rfl (any_of HT_.out (by kernel_rfl)) (fun _ _ _ h => h) (Or.inr ⟨by rfl, rfl⟩) ?_ ?_
              rotate_left
              · simp only [Act.put, List.setIfInBounds_toArray, List.set_cons_zero, List.set_cons_succ, i64_w, i32_w]
                rfl
              refine pure_ (i := 15) (N := some 37) (v := undef) (a' := ?_) #[true, true, true, true, true, true, true, true, true, true, true, true, true, true, true, true, false] rfl rfl (any_of HT_.out (by kernel_rfl)) (fun _ _ _ h => h) (Or.inr ⟨by rfl, rfl⟩) ?_ ?_
              rotate_left
              · simp only [Act.put, List.setIfInBounds_toArray, List.set_cons_zero, List.set_cons_succ, i64_w, i32_w]
                rfl
              refine pure_ (i := 16) (N := some 38) (v := ?_) (a' := ?_) #[true, true, true, true, true, true, true, true, true, true, true, true, true, true, true, true, true] rfl rfl (any_of HT_.out (by kernel_rfl)) (fun _ _ _ h => h) (Or.inl ⟨by rfl, ?_⟩) ?_ ?_
              rotate_left
              · intro w'
                go_simp
                with_reducible rfl
              rotate_left
              · simp only [Act.put, List.setIfInBounds_toArray, List.set_cons_zero, List.set_cons_succ, i64_w, i32_w]
                rfl
              refine done_ (done_of HT_.out (by kernel_rfl)) ?_
              try go_wp2
              go_roundg k1
              case measure => have := HK1.out; omega
              case rel => exact ⟨(x5_1), (wrap64 (x7_1 + 1)), (by first | rfl | (simp; done) | (simp [*]; done)), H', ⟨by have := HK1.out; omega⟩, ⟨by (with_reducible repeat (first | apply Kd.R_alloc | apply Kd.R_drewN | apply Kd.R_drew)); exact HO_5.out⟩, ⟨by (with_reducible repeat (first | apply Kd.R_alloc | apply Kd.R_drewN | apply Kd.R_drew)); exact HO_6.out⟩, ⟨by (with_reducible repeat (first | refine blk_drewN ?_ _ | refine blk_drew ?_ | refine blk_alloc ?_ _)); exact BK145.out⟩, ⟨by repeat (first | (with_reducible first | exact HB.out | apply below_alloc | apply pw_below_drewN | apply below_drew1 | refine below_set ?_ GE145.out) | exact HB.out)⟩⟩
          · rw [if_neg c11] at H
            exact absurd H (by simp)
        · rw [if_neg c10] at H
          have c10b0 : decide (x7_1 < (y149.length : Int)) = false := decide_eq_false c10
          clear c10
          obtain rfl := Option.some.inj H
          obtain ⟨Ao29, co29, eo29⟩ := Kd.R_slice HO_6.out
          subst eo29
          go_wp2
          go_ret
          exact ⟨_, by first | rfl | (simp [errW_none, errW_some] <;> rfl) | (simp [*, errW_none, errW_some] <;> rfl), by (with_reducible repeat (first | apply Kd.R_alloc | apply Kd.R_drewN | apply Kd.R_drew)); exact Kd.R_mono HO_5.out (fun _ hk => trivial), by repeat (first | (with_reducible first | exact HB.out | apply below_alloc | apply pw_below_drewN | apply below_drew1 | refine below_set ?_ GE145.out) | exact HB.out)⟩
  · rw [if_neg c3] at H
    exact absurd H (by simp)

end Go.Proofs.Ytmjedjhgomlfiaa.PAuditLeaks
