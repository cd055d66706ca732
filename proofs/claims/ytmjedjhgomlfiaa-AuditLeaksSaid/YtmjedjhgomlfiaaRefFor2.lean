/- Functions printed by print.sh over this seat, taken together. -/
import Derived.Test.YtmjedjhgomlfiaaRefCopy
import Derived.Test.YtmjedjhgomlfiaaPAuditLeaksx1
import Derived.Test.YtmjedjhgomlfiaaPAuditLeaksx2
namespace Go.Proofs.Ytmjedjhgomlfiaa.PAuditLeaks
open Go.RowKit Go.Proofs.YtmjedjhgomlfiaaW.PrintWords Go.Proofs.YtmjedjhgomlfiaaW.PrintLast Go.Proofs.YtmjedjhgomlfiaaW.PrintMore
attribute [local go_sem] max2_int min2_int max_two min_two max_three min_three max_four min_four   -- for this text's walks alone
set_option linter.unusedVariables false
set_option linter.unusedSimpArgs false

/-! ### towncrierref04_Make: function 53 -/
mutual
def towncrierref04_Make.j0 : Nat → List (S61) → Bool → Int → Int → Int → Int → Int → Bool → ByteArray → ByteArray → List Int → Option ((List (S61)) × Int × Int)
  | 0, _, _, _, _, _, _, _, _, _, _, _ => none
  | k + 1, x0, x14, x176000, x176001, x176002, x176003, x176004, x176005, x176006, x176007, x176008 => if x14 = true then (some (x0, 0, 2)) else (if x176000 = 3 then (if x176004 = 1 then (towncrierref04_Make.j1 k x0 false x176000 x176001 x176002 x176003 x176004 x176005 x176006 x176007 x176008) else (if x176004 = 2 then (towncrierref04_Make.j1 k x0 false x176000 x176001 x176002 x176003 x176004 x176005 x176006 x176007 x176008) else (towncrierref04_Make.j1 k x0 true x176000 x176001 x176002 x176003 x176004 x176005 x176006 x176007 x176008))) else (towncrierref04_Make.j1 k x0 (x176004 != 0) x176000 x176001 x176002 x176003 x176004 x176005 x176006 x176007 x176008))
def towncrierref04_Make.j1 : Nat → List (S61) → Bool → Int → Int → Int → Int → Int → Bool → ByteArray → ByteArray → List Int → Option ((List (S61)) × Int × Int)
  | 0, _, _, _, _, _, _, _, _, _, _, _ => none
  | k + 1, x0, x38, x176000, x176001, x176002, x176003, x176004, x176005, x176006, x176007, x176008 => if x38 = true then (some (x0, 0, 1)) else (if x176000 = 2 then (if x176005 = true then ((towncrierref04_named.f k x176006).bind fun t176 => (if t176 = true then ((towncrierref04_named.f k x176007).bind fun t177 => (towncrierref04_Make.j2 k x0 (!t177) x176000 x176001 x176002 x176003 x176004 x176005 x176006 x176007 x176008)) else (towncrierref04_Make.j2 k x0 true x176000 x176001 x176002 x176003 x176004 x176005 x176006 x176007 x176008))) else (if x176006.toList = ([] : List UInt8) then ((towncrierref04_named.f k x176006).bind fun t178 => (if t178 = true then ((towncrierref04_named.f k x176007).bind fun t179 => (towncrierref04_Make.j2 k x0 (!t179) x176000 x176001 x176002 x176003 x176004 x176005 x176006 x176007 x176008)) else (towncrierref04_Make.j2 k x0 true x176000 x176001 x176002 x176003 x176004 x176005 x176006 x176007 x176008))) else (towncrierref04_Make.j2 k x0 true x176000 x176001 x176002 x176003 x176004 x176005 x176006 x176007 x176008))) else (if x176005 = true then (towncrierref04_Make.j2 k x0 true x176000 x176001 x176002 x176003 x176004 x176005 x176006 x176007 x176008) else (if x176007.toList = ([] : List UInt8) then (if x176006.toList = ([] : List UInt8) then ((towncrierref04_named.f k x176006).bind fun t180 => (if t180 = true then ((towncrierref04_named.f k x176007).bind fun t181 => (towncrierref04_Make.j2 k x0 (!t181) x176000 x176001 x176002 x176003 x176004 x176005 x176006 x176007 x176008)) else (towncrierref04_Make.j2 k x0 true x176000 x176001 x176002 x176003 x176004 x176005 x176006 x176007 x176008))) else (towncrierref04_Make.j2 k x0 true x176000 x176001 x176002 x176003 x176004 x176005 x176006 x176007 x176008)) else (towncrierref04_Make.j2 k x0 true x176000 x176001 x176002 x176003 x176004 x176005 x176006 x176007 x176008))))
def towncrierref04_Make.j2 : Nat → List (S61) → Bool → Int → Int → Int → Int → Int → Bool → ByteArray → ByteArray → List Int → Option ((List (S61)) × Int × Int)
  | 0, _, _, _, _, _, _, _, _, _, _, _ => none
  | k + 1, x0, x73, x176000, x176001, x176002, x176003, x176004, x176005, x176006, x176007, x176008 => if x73 = true then (some (x0, 0, 1)) else (if (x0.length : Int) ≥ 128 then (some (x0, 0, 9)) else ((towncrierref04_Copy.f k x0).bind fun t182 => ((some (([(⟨x176000, 0, 0, 0, x176004, x176005, x176006, x176007, ([] : List Int)⟩ : S61)] : List (S61)) : List (S61))).bind fun y185 => (if t182.length + y185.length < 1353245080339 then ((some (t182 ++ y185 : List (S61))).bind fun y188 => (some (y188, (y188.length : Int), 0))) else (none)))))
end
def towncrierref04_Make.f (k : Nat) (l0 : List (S61)) (a1_0 : Int) (a1_1 : Int) (a1_2 : Int) (a1_3 : Int) (a1_4 : Int) (a1_5 : Bool) (a1_6 : ByteArray) (a1_7 : ByteArray) (l1_8 : List Int) : Option ((List (S61)) × Int × Int) := if a1_0 < 1 then (towncrierref04_Make.j0 k l0 true a1_0 a1_1 a1_2 a1_3 a1_4 a1_5 a1_6 a1_7 l1_8) else (towncrierref04_Make.j0 k l0 (decide (a1_0 > 4)) a1_0 a1_1 a1_2 a1_3 a1_4 a1_5 a1_6 a1_7 l1_8)
theorem towncrierref04_Make.mono_l : ∀ k, (∀ y0 y1 y2 y3 y4 y5 y6 y7 y8 y9 y10, LeO (towncrierref04_Make.j0 k y0 y1 y2 y3 y4 y5 y6 y7 y8 y9 y10) (towncrierref04_Make.j0 (k + 1) y0 y1 y2 y3 y4 y5 y6 y7 y8 y9 y10)) ∧ (∀ y0 y1 y2 y3 y4 y5 y6 y7 y8 y9 y10, LeO (towncrierref04_Make.j1 k y0 y1 y2 y3 y4 y5 y6 y7 y8 y9 y10) (towncrierref04_Make.j1 (k + 1) y0 y1 y2 y3 y4 y5 y6 y7 y8 y9 y10)) ∧ (∀ y0 y1 y2 y3 y4 y5 y6 y7 y8 y9 y10, LeO (towncrierref04_Make.j2 k y0 y1 y2 y3 y4 y5 y6 y7 y8 y9 y10) (towncrierref04_Make.j2 (k + 1) y0 y1 y2 y3 y4 y5 y6 y7 y8 y9 y10))
  | 0 => ⟨fun _ _ _ _ _ _ _ _ _ _ _ r h => by simp [towncrierref04_Make.j0] at h, fun _ _ _ _ _ _ _ _ _ _ _ r h => by simp [towncrierref04_Make.j1] at h, fun _ _ _ _ _ _ _ _ _ _ _ r h => by simp [towncrierref04_Make.j2] at h⟩
  | k + 1 => by
    obtain ⟨ih0, ih1, ih2⟩ := towncrierref04_Make.mono_l k
    refine ⟨?_, ?_, ?_⟩
    · intro y0 y1 y2 y3 y4 y5 y6 y7 y8 y9 y10
      unfold towncrierref04_Make.j0
      repeat' first
      | (with_reducible exact ih0 _ _ _ _ _ _ _ _ _ _ _)
      | (with_reducible exact ih1 _ _ _ _ _ _ _ _ _ _ _)
      | (with_reducible exact ih2 _ _ _ _ _ _ _ _ _ _ _)
      | (with_reducible exact towncrierref04_Copy.mono _ _)
      | (with_reducible exact towncrierref04_named.mono _ _)
      | (with_reducible exact LeO.refl _)
      | (with_reducible exact LeO.none _)
      | (with_reducible refine LeO.ite ?_ ?_)
      | (with_reducible refine LeO.bind ?_ (fun _ => ?_))
      | exact ih0 _ _ _ _ _ _ _ _ _ _ _
      | exact ih1 _ _ _ _ _ _ _ _ _ _ _
      | exact ih2 _ _ _ _ _ _ _ _ _ _ _
      | exact towncrierref04_Copy.mono _ _
      | exact towncrierref04_named.mono _ _
      | exact LeO.none _
      | refine LeO.ite ?_ ?_
      | refine LeO.bind ?_ (fun _ => ?_)
    · intro y0 y1 y2 y3 y4 y5 y6 y7 y8 y9 y10
      unfold towncrierref04_Make.j1
      repeat' first
      | (with_reducible exact ih0 _ _ _ _ _ _ _ _ _ _ _)
      | (with_reducible exact ih1 _ _ _ _ _ _ _ _ _ _ _)
      | (with_reducible exact ih2 _ _ _ _ _ _ _ _ _ _ _)
      | (with_reducible exact towncrierref04_Copy.mono _ _)
      | (with_reducible exact towncrierref04_named.mono _ _)
      | (with_reducible exact LeO.refl _)
      | (with_reducible exact LeO.none _)
      | (with_reducible refine LeO.ite ?_ ?_)
      | (with_reducible refine LeO.bind ?_ (fun _ => ?_))
      | exact ih0 _ _ _ _ _ _ _ _ _ _ _
      | exact ih1 _ _ _ _ _ _ _ _ _ _ _
      | exact ih2 _ _ _ _ _ _ _ _ _ _ _
      | exact towncrierref04_Copy.mono _ _
      | exact towncrierref04_named.mono _ _
      | exact LeO.none _
      | refine LeO.ite ?_ ?_
      | refine LeO.bind ?_ (fun _ => ?_)
    · intro y0 y1 y2 y3 y4 y5 y6 y7 y8 y9 y10
      unfold towncrierref04_Make.j2
      repeat' first
      | (with_reducible exact ih0 _ _ _ _ _ _ _ _ _ _ _)
      | (with_reducible exact ih1 _ _ _ _ _ _ _ _ _ _ _)
      | (with_reducible exact ih2 _ _ _ _ _ _ _ _ _ _ _)
      | (with_reducible exact towncrierref04_Copy.mono _ _)
      | (with_reducible exact towncrierref04_named.mono _ _)
      | (with_reducible exact LeO.refl _)
      | (with_reducible exact LeO.none _)
      | (with_reducible refine LeO.ite ?_ ?_)
      | (with_reducible refine LeO.bind ?_ (fun _ => ?_))
      | exact ih0 _ _ _ _ _ _ _ _ _ _ _
      | exact ih1 _ _ _ _ _ _ _ _ _ _ _
      | exact ih2 _ _ _ _ _ _ _ _ _ _ _
      | exact towncrierref04_Copy.mono _ _
      | exact towncrierref04_named.mono _ _
      | exact LeO.none _
      | refine LeO.ite ?_ ?_
      | refine LeO.bind ?_ (fun _ => ?_)
theorem towncrierref04_Make.mono : ∀ a0 a1 a2 a3 a4 a5 a6 a7 a8 a9 k, LeO (towncrierref04_Make.f k a0 a1 a2 a3 a4 a5 a6 a7 a8 a9) (towncrierref04_Make.f (k + 1) a0 a1 a2 a3 a4 a5 a6 a7 a8 a9) := by
  intro a0 a1 a2 a3 a4 a5 a6 a7 a8 a9 k
  obtain ⟨ih0, ih1, ih2⟩ := towncrierref04_Make.mono_l k
  unfold towncrierref04_Make.f
  repeat' first
      | (with_reducible exact ih0 _ _ _ _ _ _ _ _ _ _ _)
      | (with_reducible exact ih1 _ _ _ _ _ _ _ _ _ _ _)
      | (with_reducible exact ih2 _ _ _ _ _ _ _ _ _ _ _)
      | (with_reducible exact towncrierref04_Copy.mono _ _)
      | (with_reducible exact towncrierref04_named.mono _ _)
      | (with_reducible exact LeO.refl _)
      | (with_reducible exact LeO.none _)
      | (with_reducible refine LeO.ite ?_ ?_)
      | (with_reducible refine LeO.bind ?_ (fun _ => ?_))
      | exact ih0 _ _ _ _ _ _ _ _ _ _ _
      | exact ih1 _ _ _ _ _ _ _ _ _ _ _
      | exact ih2 _ _ _ _ _ _ _ _ _ _ _
      | exact towncrierref04_Copy.mono _ _
      | exact towncrierref04_named.mono _ _
      | exact LeO.none _
      | refine LeO.ite ?_ ?_
      | refine LeO.bind ?_ (fun _ => ?_)
def towncrierref04_Make.T9 : Bool × List (List Nat × List Nat) := (true, [([], []), ([0], [0]), ([], []), ([2], [2]), ([], []), ([4], [4]), ([], []), ([6], [6]), ([], []), ([8], [8]), ([], []), ([10], [10]), ([3, 5, 7, 9, 11], [3, 5, 7, 9, 11]), ([12], [12]), ([1, 13, 1], [1, 13]), ([14, 14, 0, 1, 2, 3, 4, 5, 6, 7, 8, 9, 10, 11, 12, 13, 14], [0, 14])])
def towncrierref04_Make.B9 : List Nat := [0, 1, 0, 4, 0, 16, 0, 64, 0, 256, 0, 1024, 4092, 8188, 16383, 32767]
theorem towncrierref04_Make.tab9 : rtab .any (opsOf Try.f53 9) = towncrierref04_Make.T9 := by kernel_rfl
theorem towncrierref04_Make.bits9 : waitsOk towncrierref04_Make.T9.2 towncrierref04_Make.B9 = true := by kernel_rfl
set_option maxHeartbeats 8000000 in
set_option maxRecDepth 100000 in
theorem towncrierref04_Make.calls (k : Nat) (P0_ : Nat → Prop) (A0 : Option Addr) (c0 : Nat) (l0 : List (S61)) (a1_0 : Int) (a1_1 : Int) (a1_2 : Int) (a1_3 : Int) (a1_4 : Int) (a1_5 : Bool) (a1_6 : ByteArray) (a1_7 : ByteArray) (A1_8 : Option Addr) (c1_8 : Nat) (l1_8 : List Int) (r1 : List (S61)) (r2 : Int) (r3 : Int) (w : World) (hs0 : Kd.V k61 61 w w.heap.size (fun k_ => P0_ k_) (.slice A0 l0.length c0) l0) (hr1_8 : Kd.C (Kd.int .i64) w A1_8 l1_8.length l1_8) (hc1_8 : l1_8.length ≤ c1_8) (h : towncrierref04_Make.f k l0 a1_0 a1_1 a1_2 a1_3 a1_4 a1_5 a1_6 a1_7 l1_8 = some (r1, r2, r3)) :
    Calls Try.prog 53 #[.slice A0 l0.length c0, .agg #[.int .i64 a1_0, .int .i64 a1_1, .int .i64 a1_2, .int .i64 a1_3, .int .i64 a1_4, .bool a1_5, .string a1_6, .string a1_7, .slice A1_8 l1_8.length c1_8]] w fun e w' => ∃ v0_ : Value, e = .returned (.tuple #[v0_, .int .i64 r2, .int .i64 r3]) ∧ Kd.V k61 61 w' w.heap.size (fun k_ => (P0_ k_ ∨ w.heap.size ≤ k_)) v0_ r1 ∧ Below w.heap.size w w' := by
  have hu61 := Try.underlying61
  have HO0 := Aside0.mk (show Kd.V k61 61 w w.heap.size (fun k_ => (P0_ k_ ∨ w.heap.size ≤ k_)) (.slice A0 l0.length c0) l0 from Kd.V_mono hs0 (fun k_ hk => .inl hk))
  have HR1_8 := Aside0.mk hr1_8
  have HC1_8 := Aside0.mk hc1_8
  clear hr1_8 hc1_8
  have HB := Aside0.mk (Below.refl w.heap.size w)
  have H : (if a1_0 < 1 then (towncrierref04_Make.j0 k l0 true a1_0 a1_1 a1_2 a1_3 a1_4 a1_5 a1_6 a1_7 l1_8) else (towncrierref04_Make.j0 k l0 (decide (a1_0 > 4)) a1_0 a1_1 a1_2 a1_3 a1_4 a1_5 a1_6 a1_7 l1_8)) = some (r1, r2, r3) := h
  clear h
  have HC3 := Aside0.mk H
  clear H
  go_enter Try.func53, Try.ntmps53
  go_upto_region 1 with (first | ((with_reducible refine gate_dst (N := 3) rfl ?_); refine box_event ?hg (N := 3) ?hd (cs := #[.int .i64 a1_0, .int .i64 a1_1, .int .i64 a1_2, .int .i64 a1_3, .int .i64 a1_4, .bool a1_5, .string a1_6, .string a1_7, .slice A1_8 l1_8.length c1_8]) (t := 61) ?hr ?_; (case hd => rfl); (case hg => rfl); (case hr => first | (go_simp; done) | (go_simp; rfl)); intro gb175 hg w4 hbox hb; have n0_ := Aside0.mk (Kd.V_below (Kd.V_elderB (by (with_reducible repeat (first | apply Kd.V_alloc | apply Kd.V_drewN | apply Kd.V_drew)); exact HO0.out) gb175 (Nat.le_of_eq hg.symm)) hb); have n1_ := Aside0.mk (below_step (by repeat (first | (with_reducible first | exact HB.out | apply below_alloc | apply pw_below_drewN | apply below_drew1) | exact HB.out)) hb); have n2_ := Aside0.mk (hbox); have n3_ := Aside0.mk ((by rw [hg]; exact (below_size (by repeat (first | (with_reducible first | exact HB.out | apply below_alloc | apply pw_below_drewN | apply below_drew1) | exact HB.out))) : w.heap.size ≤ gb175)); have n4_ := Aside0.mk ((by rw [hg]; exact (below_size (by repeat (first | (with_reducible first | exact HB.out | apply below_alloc | apply pw_below_drewN | apply below_drew1) | exact HB.out))) : w.heap.size ≤ gb175)); clear HO0; clear HB; have HO0 := n0_; have HB := n1_; have BK175 := n2_; have GW175 := n3_; have GE175 := n4_; clear n0_ n1_ n2_ n3_ n4_; clear hb hbox hg))
  (try simp only [Act.put, List.setIfInBounds_toArray, List.set_cons_zero, List.set_cons_succ])
  go_cut [14] (fun v14 wc => ∃ (kq : Nat) (x14_2 : Bool), v14 = .bool x14_2 ∧ Aside0 (towncrierref04_Make.j0 kq l0 x14_2 a1_0 a1_1 a1_2 a1_3 a1_4 a1_5 a1_6 a1_7 l1_8 = some (r1, r2, r3)) ∧ Aside0 (kq ≤ k) ∧ Aside0 (Kd.V k61 61 wc w.heap.size (fun k_ => (P0_ k_ ∨ w.heap.size ≤ k_) ∧ k_ ≠ gb175) (.slice A0 l0.length c0) l0) ∧ Aside0 (wc.heap[gb175]? = some (.cells #[.int .i64 a1_0, .int .i64 a1_1, .int .i64 a1_2, .int .i64 a1_3, .int .i64 a1_4, .bool a1_5, .string a1_6, .string a1_7, (.slice A1_8 l1_8.length c1_8)] 61 (0, 0))) ∧ Aside0 (Below w.heap.size w wc))
  case first =>
    have H := HC3.out
    clear HC3
    by_cases c5 : a1_0 < 1
    · rw [if_pos c5] at H
      have c5b0 : decide (a1_0 < 1) = true := decide_eq_true c5
      clear c5
      (first | rw [c5b0] | (simp only [i64_w, i32_w]; rw [c5b0]) | skip)
      have H' := Aside0.mk H
      clear H
      have hcz6_0 : w4.cell? ⟨gb175, 0, none⟩ = some (.int .i64 a1_0) := (blk_cell BK175.out 0).trans rfl
      have hcz6_1 : w4.cell? ⟨gb175, 1, none⟩ = some (.int .i64 a1_1) := (blk_cell BK175.out 1).trans rfl
      have hcz6_2 : w4.cell? ⟨gb175, 2, none⟩ = some (.int .i64 a1_2) := (blk_cell BK175.out 2).trans rfl
      have hcz6_3 : w4.cell? ⟨gb175, 3, none⟩ = some (.int .i64 a1_3) := (blk_cell BK175.out 3).trans rfl
      have hcz6_4 : w4.cell? ⟨gb175, 4, none⟩ = some (.int .i64 a1_4) := (blk_cell BK175.out 4).trans rfl
      have hcz6_5 : w4.cell? ⟨gb175, 5, none⟩ = some (.bool a1_5) := (blk_cell BK175.out 5).trans rfl
      have hcz6_6 : w4.cell? ⟨gb175, 6, none⟩ = some (.string a1_6) := (blk_cell BK175.out 6).trans rfl
      have hcz6_7 : w4.cell? ⟨gb175, 7, none⟩ = some (.string a1_7) := (blk_cell BK175.out 7).trans rfl
      have hcz6_8 : w4.cell? ⟨gb175, 8, none⟩ = some (.slice A1_8 l1_8.length c1_8) := (blk_cell BK175.out 8).trans rfl
      have hfz6_0 := blk_frozen BK175.out 0
      have hfz6_1 := blk_frozen BK175.out 1
      have hfz6_2 := blk_frozen BK175.out 2
      have hfz6_3 := blk_frozen BK175.out 3
      have hfz6_4 := blk_frozen BK175.out 4
      have hfz6_5 := blk_frozen BK175.out 5
      have hfz6_6 := blk_frozen BK175.out 6
      have hfz6_7 := blk_frozen BK175.out 7
      have hfz6_8 := blk_frozen BK175.out 8
      go_wp2
      go_meet
      case rel => exact ⟨_, (true), (by first | rfl | (simp; done) | (simp [*]; done)), H', ⟨by first | omega | exact Nat.le_refl _⟩, ⟨by (with_reducible repeat (first | apply Kd.V_alloc | apply Kd.V_drewN | apply Kd.V_drew)); exact HO0.out⟩, ⟨by (with_reducible repeat (first | refine blk_drewN ?_ _ | refine blk_drew ?_ | refine blk_alloc ?_ _)); exact BK175.out⟩, ⟨by repeat (first | (with_reducible first | exact HB.out | apply below_alloc | apply pw_below_drewN | apply below_drew1 | refine below_set ?_ GE175.out) | exact HB.out)⟩⟩
    · rw [if_neg c5] at H
      have c5b0 : decide (a1_0 < 1) = false := decide_eq_false c5
      clear c5
      (first | rw [c5b0] | (simp only [i64_w, i32_w]; rw [c5b0]) | skip)
      have H' := Aside0.mk H
      clear H
      have hcz7_0 : w4.cell? ⟨gb175, 0, none⟩ = some (.int .i64 a1_0) := (blk_cell BK175.out 0).trans rfl
      have hcz7_1 : w4.cell? ⟨gb175, 1, none⟩ = some (.int .i64 a1_1) := (blk_cell BK175.out 1).trans rfl
      have hcz7_2 : w4.cell? ⟨gb175, 2, none⟩ = some (.int .i64 a1_2) := (blk_cell BK175.out 2).trans rfl
      have hcz7_3 : w4.cell? ⟨gb175, 3, none⟩ = some (.int .i64 a1_3) := (blk_cell BK175.out 3).trans rfl
      have hcz7_4 : w4.cell? ⟨gb175, 4, none⟩ = some (.int .i64 a1_4) := (blk_cell BK175.out 4).trans rfl
      have hcz7_5 : w4.cell? ⟨gb175, 5, none⟩ = some (.bool a1_5) := (blk_cell BK175.out 5).trans rfl
      have hcz7_6 : w4.cell? ⟨gb175, 6, none⟩ = some (.string a1_6) := (blk_cell BK175.out 6).trans rfl
      have hcz7_7 : w4.cell? ⟨gb175, 7, none⟩ = some (.string a1_7) := (blk_cell BK175.out 7).trans rfl
      have hcz7_8 : w4.cell? ⟨gb175, 8, none⟩ = some (.slice A1_8 l1_8.length c1_8) := (blk_cell BK175.out 8).trans rfl
      have hfz7_0 := blk_frozen BK175.out 0
      have hfz7_1 := blk_frozen BK175.out 1
      have hfz7_2 := blk_frozen BK175.out 2
      have hfz7_3 := blk_frozen BK175.out 3
      have hfz7_4 := blk_frozen BK175.out 4
      have hfz7_5 := blk_frozen BK175.out 5
      have hfz7_6 := blk_frozen BK175.out 6
      have hfz7_7 := blk_frozen BK175.out 7
      have hfz7_8 := blk_frozen BK175.out 8
      go_wp2
      go_meet
      case rel => exact ⟨_, (decide (a1_0 > 4)), (by first | rfl | (simp; done) | (simp [*]; done)), H', ⟨by first | omega | exact Nat.le_refl _⟩, ⟨by (with_reducible repeat (first | apply Kd.V_alloc | apply Kd.V_drewN | apply Kd.V_drew)); exact HO0.out⟩, ⟨by (with_reducible repeat (first | refine blk_drewN ?_ _ | refine blk_drew ?_ | refine blk_alloc ?_ _)); exact BK175.out⟩, ⟨by repeat (first | (with_reducible first | exact HB.out | apply below_alloc | apply pw_below_drewN | apply below_drew1 | refine below_set ?_ GE175.out) | exact HB.out)⟩⟩
  case rest =>
    clear HC3
    try clear c1
    try clear p2
    try clear c5
    try clear c5b0
    try clear hcz6_0
    try clear hcz6_1
    try clear hcz6_2
    try clear hcz6_3
    try clear hcz6_4
    try clear hcz6_5
    try clear hcz6_6
    try clear hcz6_7
    try clear hcz6_8
    try clear hcz7_0
    try clear hcz7_1
    try clear hcz7_2
    try clear hcz7_3
    try clear hcz7_4
    try clear hcz7_5
    try clear hcz7_6
    try clear hcz7_7
    try clear hcz7_8
    try clear hfz6_0
    try clear hfz6_1
    try clear hfz6_2
    try clear hfz6_3
    try clear hfz6_4
    try clear hfz6_5
    try clear hfz6_6
    try clear hfz6_7
    try clear hfz6_8
    try clear hfz7_0
    try clear hfz7_1
    try clear hfz7_2
    try clear hfz7_3
    try clear hfz7_4
    try clear hfz7_5
    try clear hfz7_6
    try clear hfz7_7
    try clear hfz7_8
    obtain ⟨kq, x14_2, rfl, HA, HJ2, HO_0, BK175, HB⟩ := hcut
    cases kq with
    | zero => exact absurd HA.out (by simp [towncrierref04_Make.j0])
    | succ kj2 =>
      have H := HA.out
      clear HA
      simp only [towncrierref04_Make.j0] at H
      by_cases c8 : x14_2 = true
      · subst c8
        have H1 : (some (l0, 0, 2)) = some (r1, r2, r3) := by rw [if_pos rfl] at H; exact H
        clear H
        have H := H1
        clear H1
        simp only [Option.some.injEq, Prod.mk.injEq] at H
        obtain ⟨rfl, rfl, rfl⟩ := H
        go_wp2
        go_ret3
        exact ⟨_, by first | rfl | (simp [errW_none, errW_some] <;> rfl) | (simp [*, errW_none, errW_some] <;> rfl), by (with_reducible repeat (first | apply Kd.V_alloc | apply Kd.V_drewN | apply Kd.V_drew)); exact Kd.V_mono HO_0.out (fun _ hk => hk.1), by repeat (first | (with_reducible first | exact HB.out | apply below_alloc | apply pw_below_drewN | apply below_drew1 | refine below_set ?_ GE175.out) | exact HB.out)⟩
      · replace c8 := Bool.eq_false_iff.mpr c8
        subst c8
        have H1 : (if a1_0 = 3 then (if a1_4 = 1 then (towncrierref04_Make.j1 kj2 l0 false a1_0 a1_1 a1_2 a1_3 a1_4 a1_5 a1_6 a1_7 l1_8) else (if a1_4 = 2 then (towncrierref04_Make.j1 kj2 l0 false a1_0 a1_1 a1_2 a1_3 a1_4 a1_5 a1_6 a1_7 l1_8) else (towncrierref04_Make.j1 kj2 l0 true a1_0 a1_1 a1_2 a1_3 a1_4 a1_5 a1_6 a1_7 l1_8))) else (towncrierref04_Make.j1 kj2 l0 (a1_4 != 0) a1_0 a1_1 a1_2 a1_3 a1_4 a1_5 a1_6 a1_7 l1_8)) = some (r1, r2, r3) := by rw [if_neg (show ¬ (false = true) by decide)] at H; exact H
        clear H
        have H := H1
        clear H1
        have HC9 := Aside0.mk H
        clear H
        go_upto_region 3 with (fail)
        go_cut [38] (fun v38 wc => ∃ (kq : Nat) (x38_8 : Bool), v38 = .bool x38_8 ∧ Aside0 (towncrierref04_Make.j1 kq l0 x38_8 a1_0 a1_1 a1_2 a1_3 a1_4 a1_5 a1_6 a1_7 l1_8 = some (r1, r2, r3)) ∧ Aside0 (kq ≤ kj2) ∧ Aside0 (Kd.V k61 61 wc w.heap.size (fun k_ => (P0_ k_ ∨ w.heap.size ≤ k_) ∧ k_ ≠ gb175) (.slice A0 l0.length c0) l0) ∧ Aside0 (wc.heap[gb175]? = some (.cells #[.int .i64 a1_0, .int .i64 a1_1, .int .i64 a1_2, .int .i64 a1_3, .int .i64 a1_4, .bool a1_5, .string a1_6, .string a1_7, (.slice A1_8 l1_8.length c1_8)] 61 (0, 0))) ∧ Aside0 (Below w.heap.size w wc))
        case first =>
          have H := HC9.out
          clear HC9
          by_cases c10 : a1_0 = 3
          · rw [if_pos c10] at H
            have c10b0 : (a1_0 == 3) = true := beq_iff_eq.mpr c10
            have c10b1 : (a1_0 != 3) = false := bne_eq_false_iff_eq.mpr c10
            clear c10
            (first | rw [c10b0] | (simp only [i64_w, i32_w]; rw [c10b0]) | skip)
            by_cases c11 : a1_4 = 1
            · rw [if_pos c11] at H
              have c11b0 : (a1_4 == 1) = true := beq_iff_eq.mpr c11
              have c11b1 : (a1_4 != 1) = false := bne_eq_false_iff_eq.mpr c11
              clear c11
              have H' := Aside0.mk H
              clear H
              have hcz12_0 : wc.cell? ⟨gb175, 0, none⟩ = some (.int .i64 a1_0) := (blk_cell BK175.out 0).trans rfl
              have hcz12_1 : wc.cell? ⟨gb175, 1, none⟩ = some (.int .i64 a1_1) := (blk_cell BK175.out 1).trans rfl
              have hcz12_2 : wc.cell? ⟨gb175, 2, none⟩ = some (.int .i64 a1_2) := (blk_cell BK175.out 2).trans rfl
              have hcz12_3 : wc.cell? ⟨gb175, 3, none⟩ = some (.int .i64 a1_3) := (blk_cell BK175.out 3).trans rfl
              have hcz12_4 : wc.cell? ⟨gb175, 4, none⟩ = some (.int .i64 a1_4) := (blk_cell BK175.out 4).trans rfl
              have hcz12_5 : wc.cell? ⟨gb175, 5, none⟩ = some (.bool a1_5) := (blk_cell BK175.out 5).trans rfl
              have hcz12_6 : wc.cell? ⟨gb175, 6, none⟩ = some (.string a1_6) := (blk_cell BK175.out 6).trans rfl
              have hcz12_7 : wc.cell? ⟨gb175, 7, none⟩ = some (.string a1_7) := (blk_cell BK175.out 7).trans rfl
              have hcz12_8 : wc.cell? ⟨gb175, 8, none⟩ = some (.slice A1_8 l1_8.length c1_8) := (blk_cell BK175.out 8).trans rfl
              have hfz12_0 := blk_frozen BK175.out 0
              have hfz12_1 := blk_frozen BK175.out 1
              have hfz12_2 := blk_frozen BK175.out 2
              have hfz12_3 := blk_frozen BK175.out 3
              have hfz12_4 := blk_frozen BK175.out 4
              have hfz12_5 := blk_frozen BK175.out 5
              have hfz12_6 := blk_frozen BK175.out 6
              have hfz12_7 := blk_frozen BK175.out 7
              have hfz12_8 := blk_frozen BK175.out 8
              go_wp2
              go_meet
              case rel => exact ⟨_, (false), (by first | rfl | (simp; done) | (simp [*]; done)), H', ⟨by have := HJ2.out; first | omega | exact Nat.le_refl _⟩, ⟨by (with_reducible repeat (first | apply Kd.V_alloc | apply Kd.V_drewN | apply Kd.V_drew)); exact HO_0.out⟩, ⟨by (with_reducible repeat (first | refine blk_drewN ?_ _ | refine blk_drew ?_ | refine blk_alloc ?_ _)); exact BK175.out⟩, ⟨by repeat (first | (with_reducible first | exact HB.out | apply below_alloc | apply pw_below_drewN | apply below_drew1 | refine below_set ?_ GE175.out) | exact HB.out)⟩⟩
            · rw [if_neg c11] at H
              have c11b0 : (a1_4 == 1) = false := beq_eq_false_iff_ne.mpr c11
              have c11b1 : (a1_4 != 1) = true := bne_iff_ne.mpr c11
              by_cases c13 : a1_4 = 2
              · rw [if_pos c13] at H
                have c13b0 : (a1_4 == 2) = true := beq_iff_eq.mpr c13
                have c13b1 : (a1_4 != 2) = false := bne_eq_false_iff_eq.mpr c13
                clear c13
                have H' := Aside0.mk H
                clear H
                have hcz14_0 : wc.cell? ⟨gb175, 0, none⟩ = some (.int .i64 a1_0) := (blk_cell BK175.out 0).trans rfl
                have hcz14_1 : wc.cell? ⟨gb175, 1, none⟩ = some (.int .i64 a1_1) := (blk_cell BK175.out 1).trans rfl
                have hcz14_2 : wc.cell? ⟨gb175, 2, none⟩ = some (.int .i64 a1_2) := (blk_cell BK175.out 2).trans rfl
                have hcz14_3 : wc.cell? ⟨gb175, 3, none⟩ = some (.int .i64 a1_3) := (blk_cell BK175.out 3).trans rfl
                have hcz14_4 : wc.cell? ⟨gb175, 4, none⟩ = some (.int .i64 a1_4) := (blk_cell BK175.out 4).trans rfl
                have hcz14_5 : wc.cell? ⟨gb175, 5, none⟩ = some (.bool a1_5) := (blk_cell BK175.out 5).trans rfl
                have hcz14_6 : wc.cell? ⟨gb175, 6, none⟩ = some (.string a1_6) := (blk_cell BK175.out 6).trans rfl
                have hcz14_7 : wc.cell? ⟨gb175, 7, none⟩ = some (.string a1_7) := (blk_cell BK175.out 7).trans rfl
                have hcz14_8 : wc.cell? ⟨gb175, 8, none⟩ = some (.slice A1_8 l1_8.length c1_8) := (blk_cell BK175.out 8).trans rfl
                have hfz14_0 := blk_frozen BK175.out 0
                have hfz14_1 := blk_frozen BK175.out 1
                have hfz14_2 := blk_frozen BK175.out 2
                have hfz14_3 := blk_frozen BK175.out 3
                have hfz14_4 := blk_frozen BK175.out 4
                have hfz14_5 := blk_frozen BK175.out 5
                have hfz14_6 := blk_frozen BK175.out 6
                have hfz14_7 := blk_frozen BK175.out 7
                have hfz14_8 := blk_frozen BK175.out 8
                go_wp2
                go_meet
                case rel => exact ⟨_, (false), (by first | rfl | (simp; done) | (simp [*]; done)), H', ⟨by have := HJ2.out; first | omega | exact Nat.le_refl _⟩, ⟨by (with_reducible repeat (first | apply Kd.V_alloc | apply Kd.V_drewN | apply Kd.V_drew)); exact HO_0.out⟩, ⟨by (with_reducible repeat (first | refine blk_drewN ?_ _ | refine blk_drew ?_ | refine blk_alloc ?_ _)); exact BK175.out⟩, ⟨by repeat (first | (with_reducible first | exact HB.out | apply below_alloc | apply pw_below_drewN | apply below_drew1 | refine below_set ?_ GE175.out) | exact HB.out)⟩⟩
              · rw [if_neg c13] at H
                have c13b0 : (a1_4 == 2) = false := beq_eq_false_iff_ne.mpr c13
                have c13b1 : (a1_4 != 2) = true := bne_iff_ne.mpr c13
                have H' := Aside0.mk H
                clear H
                have hcz15_0 : wc.cell? ⟨gb175, 0, none⟩ = some (.int .i64 a1_0) := (blk_cell BK175.out 0).trans rfl
                have hcz15_1 : wc.cell? ⟨gb175, 1, none⟩ = some (.int .i64 a1_1) := (blk_cell BK175.out 1).trans rfl
                have hcz15_2 : wc.cell? ⟨gb175, 2, none⟩ = some (.int .i64 a1_2) := (blk_cell BK175.out 2).trans rfl
                have hcz15_3 : wc.cell? ⟨gb175, 3, none⟩ = some (.int .i64 a1_3) := (blk_cell BK175.out 3).trans rfl
                have hcz15_4 : wc.cell? ⟨gb175, 4, none⟩ = some (.int .i64 a1_4) := (blk_cell BK175.out 4).trans rfl
                have hcz15_5 : wc.cell? ⟨gb175, 5, none⟩ = some (.bool a1_5) := (blk_cell BK175.out 5).trans rfl
                have hcz15_6 : wc.cell? ⟨gb175, 6, none⟩ = some (.string a1_6) := (blk_cell BK175.out 6).trans rfl
                have hcz15_7 : wc.cell? ⟨gb175, 7, none⟩ = some (.string a1_7) := (blk_cell BK175.out 7).trans rfl
                have hcz15_8 : wc.cell? ⟨gb175, 8, none⟩ = some (.slice A1_8 l1_8.length c1_8) := (blk_cell BK175.out 8).trans rfl
                have hfz15_0 := blk_frozen BK175.out 0
                have hfz15_1 := blk_frozen BK175.out 1
                have hfz15_2 := blk_frozen BK175.out 2
                have hfz15_3 := blk_frozen BK175.out 3
                have hfz15_4 := blk_frozen BK175.out 4
                have hfz15_5 := blk_frozen BK175.out 5
                have hfz15_6 := blk_frozen BK175.out 6
                have hfz15_7 := blk_frozen BK175.out 7
                have hfz15_8 := blk_frozen BK175.out 8
                go_wp2
                go_meet
                case rel => exact ⟨_, (true), (by first | rfl | (simp; done) | (simp [*]; done)), H', ⟨by have := HJ2.out; first | omega | exact Nat.le_refl _⟩, ⟨by (with_reducible repeat (first | apply Kd.V_alloc | apply Kd.V_drewN | apply Kd.V_drew)); exact HO_0.out⟩, ⟨by (with_reducible repeat (first | refine blk_drewN ?_ _ | refine blk_drew ?_ | refine blk_alloc ?_ _)); exact BK175.out⟩, ⟨by repeat (first | (with_reducible first | exact HB.out | apply below_alloc | apply pw_below_drewN | apply below_drew1 | refine below_set ?_ GE175.out) | exact HB.out)⟩⟩
          · rw [if_neg c10] at H
            have c10b0 : (a1_0 == 3) = false := beq_eq_false_iff_ne.mpr c10
            have c10b1 : (a1_0 != 3) = true := bne_iff_ne.mpr c10
            (first | rw [c10b0] | (simp only [i64_w, i32_w]; rw [c10b0]) | skip)
            have H' := Aside0.mk H
            clear H
            have hcz16_0 : wc.cell? ⟨gb175, 0, none⟩ = some (.int .i64 a1_0) := (blk_cell BK175.out 0).trans rfl
            have hcz16_1 : wc.cell? ⟨gb175, 1, none⟩ = some (.int .i64 a1_1) := (blk_cell BK175.out 1).trans rfl
            have hcz16_2 : wc.cell? ⟨gb175, 2, none⟩ = some (.int .i64 a1_2) := (blk_cell BK175.out 2).trans rfl
            have hcz16_3 : wc.cell? ⟨gb175, 3, none⟩ = some (.int .i64 a1_3) := (blk_cell BK175.out 3).trans rfl
            have hcz16_4 : wc.cell? ⟨gb175, 4, none⟩ = some (.int .i64 a1_4) := (blk_cell BK175.out 4).trans rfl
            have hcz16_5 : wc.cell? ⟨gb175, 5, none⟩ = some (.bool a1_5) := (blk_cell BK175.out 5).trans rfl
            have hcz16_6 : wc.cell? ⟨gb175, 6, none⟩ = some (.string a1_6) := (blk_cell BK175.out 6).trans rfl
            have hcz16_7 : wc.cell? ⟨gb175, 7, none⟩ = some (.string a1_7) := (blk_cell BK175.out 7).trans rfl
            have hcz16_8 : wc.cell? ⟨gb175, 8, none⟩ = some (.slice A1_8 l1_8.length c1_8) := (blk_cell BK175.out 8).trans rfl
            have hfz16_0 := blk_frozen BK175.out 0
            have hfz16_1 := blk_frozen BK175.out 1
            have hfz16_2 := blk_frozen BK175.out 2
            have hfz16_3 := blk_frozen BK175.out 3
            have hfz16_4 := blk_frozen BK175.out 4
            have hfz16_5 := blk_frozen BK175.out 5
            have hfz16_6 := blk_frozen BK175.out 6
            have hfz16_7 := blk_frozen BK175.out 7
            have hfz16_8 := blk_frozen BK175.out 8
            go_wp2
            go_meet
            case rel => exact ⟨_, ((a1_4 != 0)), (by first | rfl | (simp; done) | (simp [*]; done)), H', ⟨by have := HJ2.out; first | omega | exact Nat.le_refl _⟩, ⟨by (with_reducible repeat (first | apply Kd.V_alloc | apply Kd.V_drewN | apply Kd.V_drew)); exact HO_0.out⟩, ⟨by (with_reducible repeat (first | refine blk_drewN ?_ _ | refine blk_drew ?_ | refine blk_alloc ?_ _)); exact BK175.out⟩, ⟨by repeat (first | (with_reducible first | exact HB.out | apply below_alloc | apply pw_below_drewN | apply below_drew1 | refine below_set ?_ GE175.out) | exact HB.out)⟩⟩
        case rest =>
          clear HC9
          try clear c1
          try clear p2
          try clear c5
          try clear c5b0
          try clear c8
          try clear c10
          try clear c10b0
          try clear c10b1
          try clear c11
          try clear c11b0
          try clear c11b1
          try clear c13
          try clear c13b0
          try clear c13b1
          try clear hcz12_0
          try clear hcz12_1
          try clear hcz12_2
          try clear hcz12_3
          try clear hcz12_4
          try clear hcz12_5
          try clear hcz12_6
          try clear hcz12_7
          try clear hcz12_8
          try clear hcz14_0
          try clear hcz14_1
          try clear hcz14_2
          try clear hcz14_3
          try clear hcz14_4
          try clear hcz14_5
          try clear hcz14_6
          try clear hcz14_7
          try clear hcz14_8
          try clear hcz15_0
          try clear hcz15_1
          try clear hcz15_2
          try clear hcz15_3
          try clear hcz15_4
          try clear hcz15_5
          try clear hcz15_6
          try clear hcz15_7
          try clear hcz15_8
          try clear hcz16_0
          try clear hcz16_1
          try clear hcz16_2
          try clear hcz16_3
          try clear hcz16_4
          try clear hcz16_5
          try clear hcz16_6
          try clear hcz16_7
          try clear hcz16_8
          try clear hcz6_0
          try clear hcz6_1
          try clear hcz6_2
          try clear hcz6_3
          try clear hcz6_4
          try clear hcz6_5
          try clear hcz6_6
          try clear hcz6_7
          try clear hcz6_8
          try clear hcz7_0
          try clear hcz7_1
          try clear hcz7_2
          try clear hcz7_3
          try clear hcz7_4
          try clear hcz7_5
          try clear hcz7_6
          try clear hcz7_7
          try clear hcz7_8
          try clear hfz12_0
          try clear hfz12_1
          try clear hfz12_2
          try clear hfz12_3
          try clear hfz12_4
          try clear hfz12_5
          try clear hfz12_6
          try clear hfz12_7
          try clear hfz12_8
          try clear hfz14_0
          try clear hfz14_1
          try clear hfz14_2
          try clear hfz14_3
          try clear hfz14_4
          try clear hfz14_5
          try clear hfz14_6
          try clear hfz14_7
          try clear hfz14_8
          try clear hfz15_0
          try clear hfz15_1
          try clear hfz15_2
          try clear hfz15_3
          try clear hfz15_4
          try clear hfz15_5
          try clear hfz15_6
          try clear hfz15_7
          try clear hfz15_8
          try clear hfz16_0
          try clear hfz16_1
          try clear hfz16_2
          try clear hfz16_3
          try clear hfz16_4
          try clear hfz16_5
          try clear hfz16_6
          try clear hfz16_7
          try clear hfz16_8
          try clear hfz6_0
          try clear hfz6_1
          try clear hfz6_2
          try clear hfz6_3
          try clear hfz6_4
          try clear hfz6_5
          try clear hfz6_6
          try clear hfz6_7
          try clear hfz6_8
          try clear hfz7_0
          try clear hfz7_1
          try clear hfz7_2
          try clear hfz7_3
          try clear hfz7_4
          try clear hfz7_5
          try clear hfz7_6
          try clear hfz7_7
          try clear hfz7_8
          try clear p2
          obtain ⟨kq, x38_8, rfl, HA, HJ8, HO_0, BK175, HB⟩ := hcut
          cases kq with
          | zero => exact absurd HA.out (by simp [towncrierref04_Make.j1])
          | succ kj8 =>
            have H := HA.out
            clear HA
            simp only [towncrierref04_Make.j1] at H
            by_cases c17 : x38_8 = true
            · subst c17
              have H1 : (some (l0, 0, 1)) = some (r1, r2, r3) := by rw [if_pos rfl] at H; exact H
              clear H
              have H := H1
              clear H1
              simp only [Option.some.injEq, Prod.mk.injEq] at H
              obtain ⟨rfl, rfl, rfl⟩ := H
              go_wp2
              go_ret3
              exact ⟨_, by first | rfl | (simp [errW_none, errW_some] <;> rfl) | (simp [*, errW_none, errW_some] <;> rfl), by (with_reducible repeat (first | apply Kd.V_alloc | apply Kd.V_drewN | apply Kd.V_drew)); exact Kd.V_mono HO_0.out (fun _ hk => hk.1), by repeat (first | (with_reducible first | exact HB.out | apply below_alloc | apply pw_below_drewN | apply below_drew1 | refine below_set ?_ GE175.out) | exact HB.out)⟩
            · replace c17 := Bool.eq_false_iff.mpr c17
              subst c17
              have H1 : (if a1_0 = 2 then (if a1_5 = true then ((towncrierref04_named.f kj8 a1_6).bind fun t176 => (if t176 = true then ((towncrierref04_named.f kj8 a1_7).bind fun t177 => (towncrierref04_Make.j2 kj8 l0 (!t177) a1_0 a1_1 a1_2 a1_3 a1_4 a1_5 a1_6 a1_7 l1_8)) else (towncrierref04_Make.j2 kj8 l0 true a1_0 a1_1 a1_2 a1_3 a1_4 a1_5 a1_6 a1_7 l1_8))) else (if a1_6.toList = ([] : List UInt8) then ((towncrierref04_named.f kj8 a1_6).bind fun t178 => (if t178 = true then ((towncrierref04_named.f kj8 a1_7).bind fun t179 => (towncrierref04_Make.j2 kj8 l0 (!t179) a1_0 a1_1 a1_2 a1_3 a1_4 a1_5 a1_6 a1_7 l1_8)) else (towncrierref04_Make.j2 kj8 l0 true a1_0 a1_1 a1_2 a1_3 a1_4 a1_5 a1_6 a1_7 l1_8))) else (towncrierref04_Make.j2 kj8 l0 true a1_0 a1_1 a1_2 a1_3 a1_4 a1_5 a1_6 a1_7 l1_8))) else (if a1_5 = true then (towncrierref04_Make.j2 kj8 l0 true a1_0 a1_1 a1_2 a1_3 a1_4 a1_5 a1_6 a1_7 l1_8) else (if a1_7.toList = ([] : List UInt8) then (if a1_6.toList = ([] : List UInt8) then ((towncrierref04_named.f kj8 a1_6).bind fun t180 => (if t180 = true then ((towncrierref04_named.f kj8 a1_7).bind fun t181 => (towncrierref04_Make.j2 kj8 l0 (!t181) a1_0 a1_1 a1_2 a1_3 a1_4 a1_5 a1_6 a1_7 l1_8)) else (towncrierref04_Make.j2 kj8 l0 true a1_0 a1_1 a1_2 a1_3 a1_4 a1_5 a1_6 a1_7 l1_8))) else (towncrierref04_Make.j2 kj8 l0 true a1_0 a1_1 a1_2 a1_3 a1_4 a1_5 a1_6 a1_7 l1_8)) else (towncrierref04_Make.j2 kj8 l0 true a1_0 a1_1 a1_2 a1_3 a1_4 a1_5 a1_6 a1_7 l1_8)))) = some (r1, r2, r3) := by rw [if_neg (show ¬ (false = true) by decide)] at H; exact H
              clear H
              have H := H1
              clear H1
              have HC18 := Aside0.mk H
              clear H
              go_upto_region 5 with (fail)
              go_cut [73] (fun v73 wc => ∃ (kq : Nat) (x73_17 : Bool), v73 = .bool x73_17 ∧ Aside0 (towncrierref04_Make.j2 kq l0 x73_17 a1_0 a1_1 a1_2 a1_3 a1_4 a1_5 a1_6 a1_7 l1_8 = some (r1, r2, r3)) ∧ Aside0 (kq ≤ kj8) ∧ Aside0 (Kd.V k61 61 wc w.heap.size (fun k_ => (P0_ k_ ∨ w.heap.size ≤ k_) ∧ k_ ≠ gb175) (.slice A0 l0.length c0) l0) ∧ Aside0 (wc.heap[gb175]? = some (.cells #[.int .i64 a1_0, .int .i64 a1_1, .int .i64 a1_2, .int .i64 a1_3, .int .i64 a1_4, .bool a1_5, .string a1_6, .string a1_7, (.slice A1_8 l1_8.length c1_8)] 61 (0, 0))) ∧ Aside0 (Below w.heap.size w wc))
              case first =>
                have H := HC18.out
                clear HC18
                by_cases c19 : a1_0 = 2
                · rw [if_pos c19] at H
                  have c19b0 : (a1_0 == 2) = true := beq_iff_eq.mpr c19
                  have c19b1 : (a1_0 != 2) = false := bne_eq_false_iff_eq.mpr c19
                  clear c19
                  (first | rw [c19b0] | (simp only [i64_w, i32_w]; rw [c19b0]) | skip)
                  by_cases c20 : a1_5 = true
                  · subst c20
                    have H1 : ((towncrierref04_named.f kj8 a1_6).bind fun t176 => (if t176 = true then ((towncrierref04_named.f kj8 a1_7).bind fun t177 => (towncrierref04_Make.j2 kj8 l0 (!t177) a1_0 a1_1 a1_2 a1_3 a1_4 true a1_6 a1_7 l1_8)) else (towncrierref04_Make.j2 kj8 l0 true a1_0 a1_1 a1_2 a1_3 a1_4 true a1_6 a1_7 l1_8))) = some (r1, r2, r3) := by rw [if_pos rfl] at H; exact H
                    clear H
                    have H := H1
                    clear H1
                    replace H := Option.bind_eq_some_iff.mp H
                    obtain ⟨t176, A210, H⟩ := H
                    replace H : (if t176 = true then ((towncrierref04_named.f kj8 a1_7).bind fun t177 => (towncrierref04_Make.j2 kj8 l0 (!t177) a1_0 a1_1 a1_2 a1_3 a1_4 true a1_6 a1_7 l1_8)) else (towncrierref04_Make.j2 kj8 l0 true a1_0 a1_1 a1_2 a1_3 a1_4 true a1_6 a1_7 l1_8)) = some (r1, r2, r3) := H
                    have A21 := Aside0.mk A210
                    clear A210
                    by_cases c22 : t176 = true
                    · subst c22
                      have H1 : ((towncrierref04_named.f kj8 a1_7).bind fun t177 => (towncrierref04_Make.j2 kj8 l0 (!t177) a1_0 a1_1 a1_2 a1_3 a1_4 true a1_6 a1_7 l1_8)) = some (r1, r2, r3) := by rw [if_pos rfl] at H; exact H
                      clear H
                      have H := H1
                      clear H1
                      replace H := Option.bind_eq_some_iff.mp H
                      obtain ⟨t177, A230, H⟩ := H
                      replace H : (towncrierref04_Make.j2 kj8 l0 (!t177) a1_0 a1_1 a1_2 a1_3 a1_4 true a1_6 a1_7 l1_8) = some (r1, r2, r3) := H
                      have A23 := Aside0.mk A230
                      clear A230
                      have H' := Aside0.mk H
                      clear H
                      have hcz24_0 : wc.cell? ⟨gb175, 0, none⟩ = some (.int .i64 a1_0) := (blk_cell BK175.out 0).trans rfl
                      have hcz24_1 : wc.cell? ⟨gb175, 1, none⟩ = some (.int .i64 a1_1) := (blk_cell BK175.out 1).trans rfl
                      have hcz24_2 : wc.cell? ⟨gb175, 2, none⟩ = some (.int .i64 a1_2) := (blk_cell BK175.out 2).trans rfl
                      have hcz24_3 : wc.cell? ⟨gb175, 3, none⟩ = some (.int .i64 a1_3) := (blk_cell BK175.out 3).trans rfl
                      have hcz24_4 : wc.cell? ⟨gb175, 4, none⟩ = some (.int .i64 a1_4) := (blk_cell BK175.out 4).trans rfl
                      have hcz24_5 : wc.cell? ⟨gb175, 5, none⟩ = some (.bool true) := (blk_cell BK175.out 5).trans rfl
                      have hcz24_6 : wc.cell? ⟨gb175, 6, none⟩ = some (.string a1_6) := (blk_cell BK175.out 6).trans rfl
                      have hcz24_7 : wc.cell? ⟨gb175, 7, none⟩ = some (.string a1_7) := (blk_cell BK175.out 7).trans rfl
                      have hcz24_8 : wc.cell? ⟨gb175, 8, none⟩ = some (.slice A1_8 l1_8.length c1_8) := (blk_cell BK175.out 8).trans rfl
                      have hfz24_0 := blk_frozen BK175.out 0
                      have hfz24_1 := blk_frozen BK175.out 1
                      have hfz24_2 := blk_frozen BK175.out 2
                      have hfz24_3 := blk_frozen BK175.out 3
                      have hfz24_4 := blk_frozen BK175.out 4
                      have hfz24_5 := blk_frozen BK175.out 5
                      have hfz24_6 := blk_frozen BK175.out 6
                      have hfz24_7 := blk_frozen BK175.out 7
                      have hfz24_8 := blk_frozen BK175.out 8
                      go_wp2_with (first | (go_at_call 65; (with_reducible refine (towncrierref04_named.calls kj8 a1_6 true _ A21.out).mono ?_); rintro e w' ⟨rfl, ⟨nd, rfl⟩⟩) | (go_at_call 65; (with_reducible refine (towncrierref04_named.calls kj8 a1_7 t177 _ A23.out).mono ?_); rintro e w' ⟨rfl, ⟨nd, rfl⟩⟩))
                      go_meet
                      case rel => exact ⟨_, (!t177), (by first | rfl | (simp; done) | (simp [*]; done)), H', ⟨by have := HJ2.out; have := HJ8.out; first | omega | exact Nat.le_refl _⟩, ⟨by (with_reducible repeat (first | apply Kd.V_alloc | apply Kd.V_drewN | apply Kd.V_drew)); exact HO_0.out⟩, ⟨by (with_reducible repeat (first | refine blk_drewN ?_ _ | refine blk_drew ?_ | refine blk_alloc ?_ _)); exact BK175.out⟩, ⟨by repeat (first | (with_reducible first | exact HB.out | apply below_alloc | apply pw_below_drewN | apply below_drew1 | refine below_set ?_ GE175.out) | exact HB.out)⟩⟩
                    · replace c22 := Bool.eq_false_iff.mpr c22
                      subst c22
                      have H1 : (towncrierref04_Make.j2 kj8 l0 true a1_0 a1_1 a1_2 a1_3 a1_4 true a1_6 a1_7 l1_8) = some (r1, r2, r3) := by rw [if_neg (show ¬ (false = true) by decide)] at H; exact H
                      clear H
                      have H := H1
                      clear H1
                      have H' := Aside0.mk H
                      clear H
                      have hcz25_0 : wc.cell? ⟨gb175, 0, none⟩ = some (.int .i64 a1_0) := (blk_cell BK175.out 0).trans rfl
                      have hcz25_1 : wc.cell? ⟨gb175, 1, none⟩ = some (.int .i64 a1_1) := (blk_cell BK175.out 1).trans rfl
                      have hcz25_2 : wc.cell? ⟨gb175, 2, none⟩ = some (.int .i64 a1_2) := (blk_cell BK175.out 2).trans rfl
                      have hcz25_3 : wc.cell? ⟨gb175, 3, none⟩ = some (.int .i64 a1_3) := (blk_cell BK175.out 3).trans rfl
                      have hcz25_4 : wc.cell? ⟨gb175, 4, none⟩ = some (.int .i64 a1_4) := (blk_cell BK175.out 4).trans rfl
                      have hcz25_5 : wc.cell? ⟨gb175, 5, none⟩ = some (.bool true) := (blk_cell BK175.out 5).trans rfl
                      have hcz25_6 : wc.cell? ⟨gb175, 6, none⟩ = some (.string a1_6) := (blk_cell BK175.out 6).trans rfl
                      have hcz25_7 : wc.cell? ⟨gb175, 7, none⟩ = some (.string a1_7) := (blk_cell BK175.out 7).trans rfl
                      have hcz25_8 : wc.cell? ⟨gb175, 8, none⟩ = some (.slice A1_8 l1_8.length c1_8) := (blk_cell BK175.out 8).trans rfl
                      have hfz25_0 := blk_frozen BK175.out 0
                      have hfz25_1 := blk_frozen BK175.out 1
                      have hfz25_2 := blk_frozen BK175.out 2
                      have hfz25_3 := blk_frozen BK175.out 3
                      have hfz25_4 := blk_frozen BK175.out 4
                      have hfz25_5 := blk_frozen BK175.out 5
                      have hfz25_6 := blk_frozen BK175.out 6
                      have hfz25_7 := blk_frozen BK175.out 7
                      have hfz25_8 := blk_frozen BK175.out 8
                      go_wp2_with (first | (go_at_call 65; (with_reducible refine (towncrierref04_named.calls kj8 a1_6 false _ A21.out).mono ?_); rintro e w' ⟨rfl, ⟨nd, rfl⟩⟩))
                      go_meet
                      case rel => exact ⟨_, (true), (by first | rfl | (simp; done) | (simp [*]; done)), H', ⟨by have := HJ2.out; have := HJ8.out; first | omega | exact Nat.le_refl _⟩, ⟨by (with_reducible repeat (first | apply Kd.V_alloc | apply Kd.V_drewN | apply Kd.V_drew)); exact HO_0.out⟩, ⟨by (with_reducible repeat (first | refine blk_drewN ?_ _ | refine blk_drew ?_ | refine blk_alloc ?_ _)); exact BK175.out⟩, ⟨by repeat (first | (with_reducible first | exact HB.out | apply below_alloc | apply pw_below_drewN | apply below_drew1 | refine below_set ?_ GE175.out) | exact HB.out)⟩⟩
                  · replace c20 := Bool.eq_false_iff.mpr c20
                    subst c20
                    have H1 : (if a1_6.toList = ([] : List UInt8) then ((towncrierref04_named.f kj8 a1_6).bind fun t178 => (if t178 = true then ((towncrierref04_named.f kj8 a1_7).bind fun t179 => (towncrierref04_Make.j2 kj8 l0 (!t179) a1_0 a1_1 a1_2 a1_3 a1_4 false a1_6 a1_7 l1_8)) else (towncrierref04_Make.j2 kj8 l0 true a1_0 a1_1 a1_2 a1_3 a1_4 false a1_6 a1_7 l1_8))) else (towncrierref04_Make.j2 kj8 l0 true a1_0 a1_1 a1_2 a1_3 a1_4 false a1_6 a1_7 l1_8)) = some (r1, r2, r3) := by rw [if_neg (show ¬ (false = true) by decide)] at H; exact H
                    clear H
                    have H := H1
                    clear H1
                    by_cases c26 : a1_6.toList = ([] : List UInt8)
                    · rw [if_pos c26] at H
                      have c26b0 : (a1_6.toList == ([] : List UInt8)) = true := beq_iff_eq.mpr c26
                      have c26b1 : (a1_6.toList != ([] : List UInt8)) = false := bne_eq_false_iff_eq.mpr c26
                      clear c26
                      replace H := Option.bind_eq_some_iff.mp H
                      obtain ⟨t178, A270, H⟩ := H
                      replace H : (if t178 = true then ((towncrierref04_named.f kj8 a1_7).bind fun t179 => (towncrierref04_Make.j2 kj8 l0 (!t179) a1_0 a1_1 a1_2 a1_3 a1_4 false a1_6 a1_7 l1_8)) else (towncrierref04_Make.j2 kj8 l0 true a1_0 a1_1 a1_2 a1_3 a1_4 false a1_6 a1_7 l1_8)) = some (r1, r2, r3) := H
                      have A27 := Aside0.mk A270
                      clear A270
                      by_cases c28 : t178 = true
                      · subst c28
                        have H1 : ((towncrierref04_named.f kj8 a1_7).bind fun t179 => (towncrierref04_Make.j2 kj8 l0 (!t179) a1_0 a1_1 a1_2 a1_3 a1_4 false a1_6 a1_7 l1_8)) = some (r1, r2, r3) := by rw [if_pos rfl] at H; exact H
                        clear H
                        have H := H1
                        clear H1
                        replace H := Option.bind_eq_some_iff.mp H
                        obtain ⟨t179, A290, H⟩ := H
                        replace H : (towncrierref04_Make.j2 kj8 l0 (!t179) a1_0 a1_1 a1_2 a1_3 a1_4 false a1_6 a1_7 l1_8) = some (r1, r2, r3) := H
                        have A29 := Aside0.mk A290
                        clear A290
                        have H' := Aside0.mk H
                        clear H
                        have hcz30_0 : wc.cell? ⟨gb175, 0, none⟩ = some (.int .i64 a1_0) := (blk_cell BK175.out 0).trans rfl
                        have hcz30_1 : wc.cell? ⟨gb175, 1, none⟩ = some (.int .i64 a1_1) := (blk_cell BK175.out 1).trans rfl
                        have hcz30_2 : wc.cell? ⟨gb175, 2, none⟩ = some (.int .i64 a1_2) := (blk_cell BK175.out 2).trans rfl
                        have hcz30_3 : wc.cell? ⟨gb175, 3, none⟩ = some (.int .i64 a1_3) := (blk_cell BK175.out 3).trans rfl
                        have hcz30_4 : wc.cell? ⟨gb175, 4, none⟩ = some (.int .i64 a1_4) := (blk_cell BK175.out 4).trans rfl
                        have hcz30_5 : wc.cell? ⟨gb175, 5, none⟩ = some (.bool false) := (blk_cell BK175.out 5).trans rfl
                        have hcz30_6 : wc.cell? ⟨gb175, 6, none⟩ = some (.string a1_6) := (blk_cell BK175.out 6).trans rfl
                        have hcz30_7 : wc.cell? ⟨gb175, 7, none⟩ = some (.string a1_7) := (blk_cell BK175.out 7).trans rfl
                        have hcz30_8 : wc.cell? ⟨gb175, 8, none⟩ = some (.slice A1_8 l1_8.length c1_8) := (blk_cell BK175.out 8).trans rfl
                        have hfz30_0 := blk_frozen BK175.out 0
                        have hfz30_1 := blk_frozen BK175.out 1
                        have hfz30_2 := blk_frozen BK175.out 2
                        have hfz30_3 := blk_frozen BK175.out 3
                        have hfz30_4 := blk_frozen BK175.out 4
                        have hfz30_5 := blk_frozen BK175.out 5
                        have hfz30_6 := blk_frozen BK175.out 6
                        have hfz30_7 := blk_frozen BK175.out 7
                        have hfz30_8 := blk_frozen BK175.out 8
                        go_wp2_with (first | (go_at_call 65; (with_reducible refine (towncrierref04_named.calls kj8 a1_6 true _ A27.out).mono ?_); rintro e w' ⟨rfl, ⟨nd, rfl⟩⟩) | (go_at_call 65; (with_reducible refine (towncrierref04_named.calls kj8 a1_7 t179 _ A29.out).mono ?_); rintro e w' ⟨rfl, ⟨nd, rfl⟩⟩))
                        go_meet
                        case rel => exact ⟨_, (!t179), (by first | rfl | (simp; done) | (simp [*]; done)), H', ⟨by have := HJ2.out; have := HJ8.out; first | omega | exact Nat.le_refl _⟩, ⟨by (with_reducible repeat (first | apply Kd.V_alloc | apply Kd.V_drewN | apply Kd.V_drew)); exact HO_0.out⟩, ⟨by (with_reducible repeat (first | refine blk_drewN ?_ _ | refine blk_drew ?_ | refine blk_alloc ?_ _)); exact BK175.out⟩, ⟨by repeat (first | (with_reducible first | exact HB.out | apply below_alloc | apply pw_below_drewN | apply below_drew1 | refine below_set ?_ GE175.out) | exact HB.out)⟩⟩
                      · replace c28 := Bool.eq_false_iff.mpr c28
                        subst c28
                        have H1 : (towncrierref04_Make.j2 kj8 l0 true a1_0 a1_1 a1_2 a1_3 a1_4 false a1_6 a1_7 l1_8) = some (r1, r2, r3) := by rw [if_neg (show ¬ (false = true) by decide)] at H; exact H
                        clear H
                        have H := H1
                        clear H1
                        have H' := Aside0.mk H
                        clear H
                        have hcz31_0 : wc.cell? ⟨gb175, 0, none⟩ = some (.int .i64 a1_0) := (blk_cell BK175.out 0).trans rfl
                        have hcz31_1 : wc.cell? ⟨gb175, 1, none⟩ = some (.int .i64 a1_1) := (blk_cell BK175.out 1).trans rfl
                        have hcz31_2 : wc.cell? ⟨gb175, 2, none⟩ = some (.int .i64 a1_2) := (blk_cell BK175.out 2).trans rfl
                        have hcz31_3 : wc.cell? ⟨gb175, 3, none⟩ = some (.int .i64 a1_3) := (blk_cell BK175.out 3).trans rfl
                        have hcz31_4 : wc.cell? ⟨gb175, 4, none⟩ = some (.int .i64 a1_4) := (blk_cell BK175.out 4).trans rfl
                        have hcz31_5 : wc.cell? ⟨gb175, 5, none⟩ = some (.bool false) := (blk_cell BK175.out 5).trans rfl
                        have hcz31_6 : wc.cell? ⟨gb175, 6, none⟩ = some (.string a1_6) := (blk_cell BK175.out 6).trans rfl
                        have hcz31_7 : wc.cell? ⟨gb175, 7, none⟩ = some (.string a1_7) := (blk_cell BK175.out 7).trans rfl
                        have hcz31_8 : wc.cell? ⟨gb175, 8, none⟩ = some (.slice A1_8 l1_8.length c1_8) := (blk_cell BK175.out 8).trans rfl
                        have hfz31_0 := blk_frozen BK175.out 0
                        have hfz31_1 := blk_frozen BK175.out 1
                        have hfz31_2 := blk_frozen BK175.out 2
                        have hfz31_3 := blk_frozen BK175.out 3
                        have hfz31_4 := blk_frozen BK175.out 4
                        have hfz31_5 := blk_frozen BK175.out 5
                        have hfz31_6 := blk_frozen BK175.out 6
                        have hfz31_7 := blk_frozen BK175.out 7
                        have hfz31_8 := blk_frozen BK175.out 8
                        go_wp2_with (first | (go_at_call 65; (with_reducible refine (towncrierref04_named.calls kj8 a1_6 false _ A27.out).mono ?_); rintro e w' ⟨rfl, ⟨nd, rfl⟩⟩))
                        go_meet
                        case rel => exact ⟨_, (true), (by first | rfl | (simp; done) | (simp [*]; done)), H', ⟨by have := HJ2.out; have := HJ8.out; first | omega | exact Nat.le_refl _⟩, ⟨by (with_reducible repeat (first | apply Kd.V_alloc | apply Kd.V_drewN | apply Kd.V_drew)); exact HO_0.out⟩, ⟨by (with_reducible repeat (first | refine blk_drewN ?_ _ | refine blk_drew ?_ | refine blk_alloc ?_ _)); exact BK175.out⟩, ⟨by repeat (first | (with_reducible first | exact HB.out | apply below_alloc | apply pw_below_drewN | apply below_drew1 | refine below_set ?_ GE175.out) | exact HB.out)⟩⟩
                    · rw [if_neg c26] at H
                      have c26b0 : (a1_6.toList == ([] : List UInt8)) = false := beq_eq_false_iff_ne.mpr c26
                      have c26b1 : (a1_6.toList != ([] : List UInt8)) = true := bne_iff_ne.mpr c26
                      have H' := Aside0.mk H
                      clear H
                      have hcz32_0 : wc.cell? ⟨gb175, 0, none⟩ = some (.int .i64 a1_0) := (blk_cell BK175.out 0).trans rfl
                      have hcz32_1 : wc.cell? ⟨gb175, 1, none⟩ = some (.int .i64 a1_1) := (blk_cell BK175.out 1).trans rfl
                      have hcz32_2 : wc.cell? ⟨gb175, 2, none⟩ = some (.int .i64 a1_2) := (blk_cell BK175.out 2).trans rfl
                      have hcz32_3 : wc.cell? ⟨gb175, 3, none⟩ = some (.int .i64 a1_3) := (blk_cell BK175.out 3).trans rfl
                      have hcz32_4 : wc.cell? ⟨gb175, 4, none⟩ = some (.int .i64 a1_4) := (blk_cell BK175.out 4).trans rfl
                      have hcz32_5 : wc.cell? ⟨gb175, 5, none⟩ = some (.bool false) := (blk_cell BK175.out 5).trans rfl
                      have hcz32_6 : wc.cell? ⟨gb175, 6, none⟩ = some (.string a1_6) := (blk_cell BK175.out 6).trans rfl
                      have hcz32_7 : wc.cell? ⟨gb175, 7, none⟩ = some (.string a1_7) := (blk_cell BK175.out 7).trans rfl
                      have hcz32_8 : wc.cell? ⟨gb175, 8, none⟩ = some (.slice A1_8 l1_8.length c1_8) := (blk_cell BK175.out 8).trans rfl
                      have hfz32_0 := blk_frozen BK175.out 0
                      have hfz32_1 := blk_frozen BK175.out 1
                      have hfz32_2 := blk_frozen BK175.out 2
                      have hfz32_3 := blk_frozen BK175.out 3
                      have hfz32_4 := blk_frozen BK175.out 4
                      have hfz32_5 := blk_frozen BK175.out 5
                      have hfz32_6 := blk_frozen BK175.out 6
                      have hfz32_7 := blk_frozen BK175.out 7
                      have hfz32_8 := blk_frozen BK175.out 8
                      go_wp2
                      go_meet
                      case rel => exact ⟨_, (true), (by first | rfl | (simp; done) | (simp [*]; done)), H', ⟨by have := HJ2.out; have := HJ8.out; first | omega | exact Nat.le_refl _⟩, ⟨by (with_reducible repeat (first | apply Kd.V_alloc | apply Kd.V_drewN | apply Kd.V_drew)); exact HO_0.out⟩, ⟨by (with_reducible repeat (first | refine blk_drewN ?_ _ | refine blk_drew ?_ | refine blk_alloc ?_ _)); exact BK175.out⟩, ⟨by repeat (first | (with_reducible first | exact HB.out | apply below_alloc | apply pw_below_drewN | apply below_drew1 | refine below_set ?_ GE175.out) | exact HB.out)⟩⟩
                · rw [if_neg c19] at H
                  have c19b0 : (a1_0 == 2) = false := beq_eq_false_iff_ne.mpr c19
                  have c19b1 : (a1_0 != 2) = true := bne_iff_ne.mpr c19
                  (first | rw [c19b0] | (simp only [i64_w, i32_w]; rw [c19b0]) | skip)
                  by_cases c33 : a1_5 = true
                  · subst c33
                    have H1 : (towncrierref04_Make.j2 kj8 l0 true a1_0 a1_1 a1_2 a1_3 a1_4 true a1_6 a1_7 l1_8) = some (r1, r2, r3) := by rw [if_pos rfl] at H; exact H
                    clear H
                    have H := H1
                    clear H1
                    have H' := Aside0.mk H
                    clear H
                    have hcz34_0 : wc.cell? ⟨gb175, 0, none⟩ = some (.int .i64 a1_0) := (blk_cell BK175.out 0).trans rfl
                    have hcz34_1 : wc.cell? ⟨gb175, 1, none⟩ = some (.int .i64 a1_1) := (blk_cell BK175.out 1).trans rfl
                    have hcz34_2 : wc.cell? ⟨gb175, 2, none⟩ = some (.int .i64 a1_2) := (blk_cell BK175.out 2).trans rfl
                    have hcz34_3 : wc.cell? ⟨gb175, 3, none⟩ = some (.int .i64 a1_3) := (blk_cell BK175.out 3).trans rfl
                    have hcz34_4 : wc.cell? ⟨gb175, 4, none⟩ = some (.int .i64 a1_4) := (blk_cell BK175.out 4).trans rfl
                    have hcz34_5 : wc.cell? ⟨gb175, 5, none⟩ = some (.bool true) := (blk_cell BK175.out 5).trans rfl
                    have hcz34_6 : wc.cell? ⟨gb175, 6, none⟩ = some (.string a1_6) := (blk_cell BK175.out 6).trans rfl
                    have hcz34_7 : wc.cell? ⟨gb175, 7, none⟩ = some (.string a1_7) := (blk_cell BK175.out 7).trans rfl
                    have hcz34_8 : wc.cell? ⟨gb175, 8, none⟩ = some (.slice A1_8 l1_8.length c1_8) := (blk_cell BK175.out 8).trans rfl
                    have hfz34_0 := blk_frozen BK175.out 0
                    have hfz34_1 := blk_frozen BK175.out 1
                    have hfz34_2 := blk_frozen BK175.out 2
                    have hfz34_3 := blk_frozen BK175.out 3
                    have hfz34_4 := blk_frozen BK175.out 4
                    have hfz34_5 := blk_frozen BK175.out 5
                    have hfz34_6 := blk_frozen BK175.out 6
                    have hfz34_7 := blk_frozen BK175.out 7
                    have hfz34_8 := blk_frozen BK175.out 8
                    go_wp2
                    go_meet
                    case rel => exact ⟨_, (true), (by first | rfl | (simp; done) | (simp [*]; done)), H', ⟨by have := HJ2.out; have := HJ8.out; first | omega | exact Nat.le_refl _⟩, ⟨by (with_reducible repeat (first | apply Kd.V_alloc | apply Kd.V_drewN | apply Kd.V_drew)); exact HO_0.out⟩, ⟨by (with_reducible repeat (first | refine blk_drewN ?_ _ | refine blk_drew ?_ | refine blk_alloc ?_ _)); exact BK175.out⟩, ⟨by repeat (first | (with_reducible first | exact HB.out | apply below_alloc | apply pw_below_drewN | apply below_drew1 | refine below_set ?_ GE175.out) | exact HB.out)⟩⟩
                  · replace c33 := Bool.eq_false_iff.mpr c33
                    subst c33
                    have H1 : (if a1_7.toList = ([] : List UInt8) then (if a1_6.toList = ([] : List UInt8) then ((towncrierref04_named.f kj8 a1_6).bind fun t180 => (if t180 = true then ((towncrierref04_named.f kj8 a1_7).bind fun t181 => (towncrierref04_Make.j2 kj8 l0 (!t181) a1_0 a1_1 a1_2 a1_3 a1_4 false a1_6 a1_7 l1_8)) else (towncrierref04_Make.j2 kj8 l0 true a1_0 a1_1 a1_2 a1_3 a1_4 false a1_6 a1_7 l1_8))) else (towncrierref04_Make.j2 kj8 l0 true a1_0 a1_1 a1_2 a1_3 a1_4 false a1_6 a1_7 l1_8)) else (towncrierref04_Make.j2 kj8 l0 true a1_0 a1_1 a1_2 a1_3 a1_4 false a1_6 a1_7 l1_8)) = some (r1, r2, r3) := by rw [if_neg (show ¬ (false = true) by decide)] at H; exact H
                    clear H
                    have H := H1
                    clear H1
                    by_cases c35 : a1_7.toList = ([] : List UInt8)
                    · rw [if_pos c35] at H
                      have c35b0 : (a1_7.toList == ([] : List UInt8)) = true := beq_iff_eq.mpr c35
                      have c35b1 : (a1_7.toList != ([] : List UInt8)) = false := bne_eq_false_iff_eq.mpr c35
                      clear c35
                      by_cases c36 : a1_6.toList = ([] : List UInt8)
                      · rw [if_pos c36] at H
                        have c36b0 : (a1_6.toList == ([] : List UInt8)) = true := beq_iff_eq.mpr c36
                        have c36b1 : (a1_6.toList != ([] : List UInt8)) = false := bne_eq_false_iff_eq.mpr c36
                        clear c36
                        replace H := Option.bind_eq_some_iff.mp H
                        obtain ⟨t180, A370, H⟩ := H
                        replace H : (if t180 = true then ((towncrierref04_named.f kj8 a1_7).bind fun t181 => (towncrierref04_Make.j2 kj8 l0 (!t181) a1_0 a1_1 a1_2 a1_3 a1_4 false a1_6 a1_7 l1_8)) else (towncrierref04_Make.j2 kj8 l0 true a1_0 a1_1 a1_2 a1_3 a1_4 false a1_6 a1_7 l1_8)) = some (r1, r2, r3) := H
                        have A37 := Aside0.mk A370
                        clear A370
                        by_cases c38 : t180 = true
                        · subst c38
                          have H1 : ((towncrierref04_named.f kj8 a1_7).bind fun t181 => (towncrierref04_Make.j2 kj8 l0 (!t181) a1_0 a1_1 a1_2 a1_3 a1_4 false a1_6 a1_7 l1_8)) = some (r1, r2, r3) := by rw [if_pos rfl] at H; exact H
                          clear H
                          have H := H1
                          clear H1
                          replace H := Option.bind_eq_some_iff.mp H
                          obtain ⟨t181, A390, H⟩ := H
                          replace H : (towncrierref04_Make.j2 kj8 l0 (!t181) a1_0 a1_1 a1_2 a1_3 a1_4 false a1_6 a1_7 l1_8) = some (r1, r2, r3) := H
                          have A39 := Aside0.mk A390
                          clear A390
                          have H' := Aside0.mk H
                          clear H
                          have hcz40_0 : wc.cell? ⟨gb175, 0, none⟩ = some (.int .i64 a1_0) := (blk_cell BK175.out 0).trans rfl
                          have hcz40_1 : wc.cell? ⟨gb175, 1, none⟩ = some (.int .i64 a1_1) := (blk_cell BK175.out 1).trans rfl
                          have hcz40_2 : wc.cell? ⟨gb175, 2, none⟩ = some (.int .i64 a1_2) := (blk_cell BK175.out 2).trans rfl
                          have hcz40_3 : wc.cell? ⟨gb175, 3, none⟩ = some (.int .i64 a1_3) := (blk_cell BK175.out 3).trans rfl
                          have hcz40_4 : wc.cell? ⟨gb175, 4, none⟩ = some (.int .i64 a1_4) := (blk_cell BK175.out 4).trans rfl
                          have hcz40_5 : wc.cell? ⟨gb175, 5, none⟩ = some (.bool false) := (blk_cell BK175.out 5).trans rfl
                          have hcz40_6 : wc.cell? ⟨gb175, 6, none⟩ = some (.string a1_6) := (blk_cell BK175.out 6).trans rfl
                          have hcz40_7 : wc.cell? ⟨gb175, 7, none⟩ = some (.string a1_7) := (blk_cell BK175.out 7).trans rfl
                          have hcz40_8 : wc.cell? ⟨gb175, 8, none⟩ = some (.slice A1_8 l1_8.length c1_8) := (blk_cell BK175.out 8).trans rfl
                          have hfz40_0 := blk_frozen BK175.out 0
                          have hfz40_1 := blk_frozen BK175.out 1
                          have hfz40_2 := blk_frozen BK175.out 2
                          have hfz40_3 := blk_frozen BK175.out 3
                          have hfz40_4 := blk_frozen BK175.out 4
                          have hfz40_5 := blk_frozen BK175.out 5
                          have hfz40_6 := blk_frozen BK175.out 6
                          have hfz40_7 := blk_frozen BK175.out 7
                          have hfz40_8 := blk_frozen BK175.out 8
                          go_wp2_with (first | (go_at_call 65; (with_reducible refine (towncrierref04_named.calls kj8 a1_6 true _ A37.out).mono ?_); rintro e w' ⟨rfl, ⟨nd, rfl⟩⟩) | (go_at_call 65; (with_reducible refine (towncrierref04_named.calls kj8 a1_7 t181 _ A39.out).mono ?_); rintro e w' ⟨rfl, ⟨nd, rfl⟩⟩))
                          go_meet
                          case rel => exact ⟨_, (!t181), (by first | rfl | (simp; done) | (simp [*]; done)), H', ⟨by have := HJ2.out; have := HJ8.out; first | omega | exact Nat.le_refl _⟩, ⟨by (with_reducible repeat (first | apply Kd.V_alloc | apply Kd.V_drewN | apply Kd.V_drew)); exact HO_0.out⟩, ⟨by (with_reducible repeat (first | refine blk_drewN ?_ _ | refine blk_drew ?_ | refine blk_alloc ?_ _)); exact BK175.out⟩, ⟨by repeat (first | (with_reducible first | exact HB.out | apply below_alloc | apply pw_below_drewN | apply below_drew1 | refine below_set ?_ GE175.out) | exact HB.out)⟩⟩
                        · replace c38 := Bool.eq_false_iff.mpr c38
                          subst c38
                          have H1 : (towncrierref04_Make.j2 kj8 l0 true a1_0 a1_1 a1_2 a1_3 a1_4 false a1_6 a1_7 l1_8) = some (r1, r2, r3) := by rw [if_neg (show ¬ (false = true) by decide)] at H; exact H
                          clear H
                          have H := H1
                          clear H1
                          have H' := Aside0.mk H
                          clear H
                          have hcz41_0 : wc.cell? ⟨gb175, 0, none⟩ = some (.int .i64 a1_0) := (blk_cell BK175.out 0).trans rfl
                          have hcz41_1 : wc.cell? ⟨gb175, 1, none⟩ = some (.int .i64 a1_1) := (blk_cell BK175.out 1).trans rfl
                          have hcz41_2 : wc.cell? ⟨gb175, 2, none⟩ = some (.int .i64 a1_2) := (blk_cell BK175.out 2).trans rfl
                          have hcz41_3 : wc.cell? ⟨gb175, 3, none⟩ = some (.int .i64 a1_3) := (blk_cell BK175.out 3).trans rfl
                          have hcz41_4 : wc.cell? ⟨gb175, 4, none⟩ = some (.int .i64 a1_4) := (blk_cell BK175.out 4).trans rfl
                          have hcz41_5 : wc.cell? ⟨gb175, 5, none⟩ = some (.bool false) := (blk_cell BK175.out 5).trans rfl
                          have hcz41_6 : wc.cell? ⟨gb175, 6, none⟩ = some (.string a1_6) := (blk_cell BK175.out 6).trans rfl
                          have hcz41_7 : wc.cell? ⟨gb175, 7, none⟩ = some (.string a1_7) := (blk_cell BK175.out 7).trans rfl
                          have hcz41_8 : wc.cell? ⟨gb175, 8, none⟩ = some (.slice A1_8 l1_8.length c1_8) := (blk_cell BK175.out 8).trans rfl
                          have hfz41_0 := blk_frozen BK175.out 0
                          have hfz41_1 := blk_frozen BK175.out 1
                          have hfz41_2 := blk_frozen BK175.out 2
                          have hfz41_3 := blk_frozen BK175.out 3
                          have hfz41_4 := blk_frozen BK175.out 4
                          have hfz41_5 := blk_frozen BK175.out 5
                          have hfz41_6 := blk_frozen BK175.out 6
                          have hfz41_7 := blk_frozen BK175.out 7
                          have hfz41_8 := blk_frozen BK175.out 8
                          go_wp2_with (first | (go_at_call 65; (with_reducible refine (towncrierref04_named.calls kj8 a1_6 false _ A37.out).mono ?_); rintro e w' ⟨rfl, ⟨nd, rfl⟩⟩))
                          go_meet
                          case rel => exact ⟨_, (true), (by first | rfl | (simp; done) | (simp [*]; done)), H', ⟨by have := HJ2.out; have := HJ8.out; first | omega | exact Nat.le_refl _⟩, ⟨by (with_reducible repeat (first | apply Kd.V_alloc | apply Kd.V_drewN | apply Kd.V_drew)); exact HO_0.out⟩, ⟨by (with_reducible repeat (first | refine blk_drewN ?_ _ | refine blk_drew ?_ | refine blk_alloc ?_ _)); exact BK175.out⟩, ⟨by repeat (first | (with_reducible first | exact HB.out | apply below_alloc | apply pw_below_drewN | apply below_drew1 | refine below_set ?_ GE175.out) | exact HB.out)⟩⟩
                      · rw [if_neg c36] at H
                        have c36b0 : (a1_6.toList == ([] : List UInt8)) = false := beq_eq_false_iff_ne.mpr c36
                        have c36b1 : (a1_6.toList != ([] : List UInt8)) = true := bne_iff_ne.mpr c36
                        have H' := Aside0.mk H
                        clear H
                        have hcz42_0 : wc.cell? ⟨gb175, 0, none⟩ = some (.int .i64 a1_0) := (blk_cell BK175.out 0).trans rfl
                        have hcz42_1 : wc.cell? ⟨gb175, 1, none⟩ = some (.int .i64 a1_1) := (blk_cell BK175.out 1).trans rfl
                        have hcz42_2 : wc.cell? ⟨gb175, 2, none⟩ = some (.int .i64 a1_2) := (blk_cell BK175.out 2).trans rfl
                        have hcz42_3 : wc.cell? ⟨gb175, 3, none⟩ = some (.int .i64 a1_3) := (blk_cell BK175.out 3).trans rfl
                        have hcz42_4 : wc.cell? ⟨gb175, 4, none⟩ = some (.int .i64 a1_4) := (blk_cell BK175.out 4).trans rfl
                        have hcz42_5 : wc.cell? ⟨gb175, 5, none⟩ = some (.bool false) := (blk_cell BK175.out 5).trans rfl
                        have hcz42_6 : wc.cell? ⟨gb175, 6, none⟩ = some (.string a1_6) := (blk_cell BK175.out 6).trans rfl
                        have hcz42_7 : wc.cell? ⟨gb175, 7, none⟩ = some (.string a1_7) := (blk_cell BK175.out 7).trans rfl
                        have hcz42_8 : wc.cell? ⟨gb175, 8, none⟩ = some (.slice A1_8 l1_8.length c1_8) := (blk_cell BK175.out 8).trans rfl
                        have hfz42_0 := blk_frozen BK175.out 0
                        have hfz42_1 := blk_frozen BK175.out 1
                        have hfz42_2 := blk_frozen BK175.out 2
                        have hfz42_3 := blk_frozen BK175.out 3
                        have hfz42_4 := blk_frozen BK175.out 4
                        have hfz42_5 := blk_frozen BK175.out 5
                        have hfz42_6 := blk_frozen BK175.out 6
                        have hfz42_7 := blk_frozen BK175.out 7
                        have hfz42_8 := blk_frozen BK175.out 8
                        go_wp2
                        go_meet
                        case rel => exact ⟨_, (true), (by first | rfl | (simp; done) | (simp [*]; done)), H', ⟨by have := HJ2.out; have := HJ8.out; first | omega | exact Nat.le_refl _⟩, ⟨by (with_reducible repeat (first | apply Kd.V_alloc | apply Kd.V_drewN | apply Kd.V_drew)); exact HO_0.out⟩, ⟨by (with_reducible repeat (first | refine blk_drewN ?_ _ | refine blk_drew ?_ | refine blk_alloc ?_ _)); exact BK175.out⟩, ⟨by repeat (first | (with_reducible first | exact HB.out | apply below_alloc | apply pw_below_drewN | apply below_drew1 | refine below_set ?_ GE175.out) | exact HB.out)⟩⟩
                    · rw [if_neg c35] at H
                      have c35b0 : (a1_7.toList == ([] : List UInt8)) = false := beq_eq_false_iff_ne.mpr c35
                      have c35b1 : (a1_7.toList != ([] : List UInt8)) = true := bne_iff_ne.mpr c35
                      have H' := Aside0.mk H
                      clear H
                      have hcz43_0 : wc.cell? ⟨gb175, 0, none⟩ = some (.int .i64 a1_0) := (blk_cell BK175.out 0).trans rfl
                      have hcz43_1 : wc.cell? ⟨gb175, 1, none⟩ = some (.int .i64 a1_1) := (blk_cell BK175.out 1).trans rfl
                      have hcz43_2 : wc.cell? ⟨gb175, 2, none⟩ = some (.int .i64 a1_2) := (blk_cell BK175.out 2).trans rfl
                      have hcz43_3 : wc.cell? ⟨gb175, 3, none⟩ = some (.int .i64 a1_3) := (blk_cell BK175.out 3).trans rfl
                      have hcz43_4 : wc.cell? ⟨gb175, 4, none⟩ = some (.int .i64 a1_4) := (blk_cell BK175.out 4).trans rfl
                      have hcz43_5 : wc.cell? ⟨gb175, 5, none⟩ = some (.bool false) := (blk_cell BK175.out 5).trans rfl
                      have hcz43_6 : wc.cell? ⟨gb175, 6, none⟩ = some (.string a1_6) := (blk_cell BK175.out 6).trans rfl
                      have hcz43_7 : wc.cell? ⟨gb175, 7, none⟩ = some (.string a1_7) := (blk_cell BK175.out 7).trans rfl
                      have hcz43_8 : wc.cell? ⟨gb175, 8, none⟩ = some (.slice A1_8 l1_8.length c1_8) := (blk_cell BK175.out 8).trans rfl
                      have hfz43_0 := blk_frozen BK175.out 0
                      have hfz43_1 := blk_frozen BK175.out 1
                      have hfz43_2 := blk_frozen BK175.out 2
                      have hfz43_3 := blk_frozen BK175.out 3
                      have hfz43_4 := blk_frozen BK175.out 4
                      have hfz43_5 := blk_frozen BK175.out 5
                      have hfz43_6 := blk_frozen BK175.out 6
                      have hfz43_7 := blk_frozen BK175.out 7
                      have hfz43_8 := blk_frozen BK175.out 8
                      go_wp2
                      go_meet
                      case rel => exact ⟨_, (true), (by first | rfl | (simp; done) | (simp [*]; done)), H', ⟨by have := HJ2.out; have := HJ8.out; first | omega | exact Nat.le_refl _⟩, ⟨by (with_reducible repeat (first | apply Kd.V_alloc | apply Kd.V_drewN | apply Kd.V_drew)); exact HO_0.out⟩, ⟨by (with_reducible repeat (first | refine blk_drewN ?_ _ | refine blk_drew ?_ | refine blk_alloc ?_ _)); exact BK175.out⟩, ⟨by repeat (first | (with_reducible first | exact HB.out | apply below_alloc | apply pw_below_drewN | apply below_drew1 | refine below_set ?_ GE175.out) | exact HB.out)⟩⟩
              case rest =>
                clear HC18
                try clear c1
                try clear c2
                try clear p2
                try clear c3
                try clear c5
                try clear c5b0
                try clear c8
                try clear c10
                try clear c10b0
                try clear c10b1
                try clear c11
                try clear c11b0
                try clear c11b1
                try clear c13
                try clear c13b0
                try clear c13b1
                try clear c17
                try clear c19
                try clear c19b0
                try clear c19b1
                try clear c20
                try clear c22
                try clear c26
                try clear c26b0
                try clear c26b1
                try clear c28
                try clear c33
                try clear c35
                try clear c35b0
                try clear c35b1
                try clear c36
                try clear c36b0
                try clear c36b1
                try clear c38
                try clear hcz12_0
                try clear hcz12_1
                try clear hcz12_2
                try clear hcz12_3
                try clear hcz12_4
                try clear hcz12_5
                try clear hcz12_6
                try clear hcz12_7
                try clear hcz12_8
                try clear hcz14_0
                try clear hcz14_1
                try clear hcz14_2
                try clear hcz14_3
                try clear hcz14_4
                try clear hcz14_5
                try clear hcz14_6
                try clear hcz14_7
                try clear hcz14_8
                try clear hcz15_0
                try clear hcz15_1
                try clear hcz15_2
                try clear hcz15_3
                try clear hcz15_4
                try clear hcz15_5
                try clear hcz15_6
                try clear hcz15_7
                try clear hcz15_8
                try clear hcz16_0
                try clear hcz16_1
                try clear hcz16_2
                try clear hcz16_3
                try clear hcz16_4
                try clear hcz16_5
                try clear hcz16_6
                try clear hcz16_7
                try clear hcz16_8
                try clear hcz24_0
                try clear hcz24_1
                try clear hcz24_2
                try clear hcz24_3
                try clear hcz24_4
                try clear hcz24_5
                try clear hcz24_6
                try clear hcz24_7
                try clear hcz24_8
                try clear hcz25_0
                try clear hcz25_1
                try clear hcz25_2
                try clear hcz25_3
                try clear hcz25_4
                try clear hcz25_5
                try clear hcz25_6
                try clear hcz25_7
                try clear hcz25_8
                try clear hcz30_0
                try clear hcz30_1
                try clear hcz30_2
                try clear hcz30_3
                try clear hcz30_4
                try clear hcz30_5
                try clear hcz30_6
                try clear hcz30_7
                try clear hcz30_8
                try clear hcz31_0
                try clear hcz31_1
                try clear hcz31_2
                try clear hcz31_3
                try clear hcz31_4
                try clear hcz31_5
                try clear hcz31_6
                try clear hcz31_7
                try clear hcz31_8
                try clear hcz32_0
                try clear hcz32_1
                try clear hcz32_2
                try clear hcz32_3
                try clear hcz32_4
                try clear hcz32_5
                try clear hcz32_6
                try clear hcz32_7
                try clear hcz32_8
                try clear hcz34_0
                try clear hcz34_1
                try clear hcz34_2
                try clear hcz34_3
                try clear hcz34_4
                try clear hcz34_5
                try clear hcz34_6
                try clear hcz34_7
                try clear hcz34_8
                try clear hcz40_0
                try clear hcz40_1
                try clear hcz40_2
                try clear hcz40_3
                try clear hcz40_4
                try clear hcz40_5
                try clear hcz40_6
                try clear hcz40_7
                try clear hcz40_8
                try clear hcz41_0
                try clear hcz41_1
                try clear hcz41_2
                try clear hcz41_3
                try clear hcz41_4
                try clear hcz41_5
                try clear hcz41_6
                try clear hcz41_7
                try clear hcz41_8
                try clear hcz42_0
                try clear hcz42_1
                try clear hcz42_2
                try clear hcz42_3
                try clear hcz42_4
                try clear hcz42_5
                try clear hcz42_6
                try clear hcz42_7
                try clear hcz42_8
                try clear hcz43_0
                try clear hcz43_1
                try clear hcz43_2
                try clear hcz43_3
                try clear hcz43_4
                try clear hcz43_5
                try clear hcz43_6
                try clear hcz43_7
                try clear hcz43_8
                try clear hcz6_0
                try clear hcz6_1
                try clear hcz6_2
                try clear hcz6_3
                try clear hcz6_4
                try clear hcz6_5
                try clear hcz6_6
                try clear hcz6_7
                try clear hcz6_8
                try clear hcz7_0
                try clear hcz7_1
                try clear hcz7_2
                try clear hcz7_3
                try clear hcz7_4
                try clear hcz7_5
                try clear hcz7_6
                try clear hcz7_7
                try clear hcz7_8
                try clear hfz12_0
                try clear hfz12_1
                try clear hfz12_2
                try clear hfz12_3
                try clear hfz12_4
                try clear hfz12_5
                try clear hfz12_6
                try clear hfz12_7
                try clear hfz12_8
                try clear hfz14_0
                try clear hfz14_1
                try clear hfz14_2
                try clear hfz14_3
                try clear hfz14_4
                try clear hfz14_5
                try clear hfz14_6
                try clear hfz14_7
                try clear hfz14_8
                try clear hfz15_0
                try clear hfz15_1
                try clear hfz15_2
                try clear hfz15_3
                try clear hfz15_4
                try clear hfz15_5
                try clear hfz15_6
                try clear hfz15_7
                try clear hfz15_8
                try clear hfz16_0
                try clear hfz16_1
                try clear hfz16_2
                try clear hfz16_3
                try clear hfz16_4
                try clear hfz16_5
                try clear hfz16_6
                try clear hfz16_7
                try clear hfz16_8
                try clear hfz24_0
                try clear hfz24_1
                try clear hfz24_2
                try clear hfz24_3
                try clear hfz24_4
                try clear hfz24_5
                try clear hfz24_6
                try clear hfz24_7
                try clear hfz24_8
                try clear hfz25_0
                try clear hfz25_1
                try clear hfz25_2
                try clear hfz25_3
                try clear hfz25_4
                try clear hfz25_5
                try clear hfz25_6
                try clear hfz25_7
                try clear hfz25_8
                try clear hfz30_0
                try clear hfz30_1
                try clear hfz30_2
                try clear hfz30_3
                try clear hfz30_4
                try clear hfz30_5
                try clear hfz30_6
                try clear hfz30_7
                try clear hfz30_8
                try clear hfz31_0
                try clear hfz31_1
                try clear hfz31_2
                try clear hfz31_3
                try clear hfz31_4
                try clear hfz31_5
                try clear hfz31_6
                try clear hfz31_7
                try clear hfz31_8
                try clear hfz32_0
                try clear hfz32_1
                try clear hfz32_2
                try clear hfz32_3
                try clear hfz32_4
                try clear hfz32_5
                try clear hfz32_6
                try clear hfz32_7
                try clear hfz32_8
                try clear hfz34_0
                try clear hfz34_1
                try clear hfz34_2
                try clear hfz34_3
                try clear hfz34_4
                try clear hfz34_5
                try clear hfz34_6
                try clear hfz34_7
                try clear hfz34_8
                try clear hfz40_0
                try clear hfz40_1
                try clear hfz40_2
                try clear hfz40_3
                try clear hfz40_4
                try clear hfz40_5
                try clear hfz40_6
                try clear hfz40_7
                try clear hfz40_8
                try clear hfz41_0
                try clear hfz41_1
                try clear hfz41_2
                try clear hfz41_3
                try clear hfz41_4
                try clear hfz41_5
                try clear hfz41_6
                try clear hfz41_7
                try clear hfz41_8
                try clear hfz42_0
                try clear hfz42_1
                try clear hfz42_2
                try clear hfz42_3
                try clear hfz42_4
                try clear hfz42_5
                try clear hfz42_6
                try clear hfz42_7
                try clear hfz42_8
                try clear hfz43_0
                try clear hfz43_1
                try clear hfz43_2
                try clear hfz43_3
                try clear hfz43_4
                try clear hfz43_5
                try clear hfz43_6
                try clear hfz43_7
                try clear hfz43_8
                try clear hfz6_0
                try clear hfz6_1
                try clear hfz6_2
                try clear hfz6_3
                try clear hfz6_4
                try clear hfz6_5
                try clear hfz6_6
                try clear hfz6_7
                try clear hfz6_8
                try clear hfz7_0
                try clear hfz7_1
                try clear hfz7_2
                try clear hfz7_3
                try clear hfz7_4
                try clear hfz7_5
                try clear hfz7_6
                try clear hfz7_7
                try clear hfz7_8
                try clear p2
                obtain ⟨kq, x73_17, rfl, HA, HJ17, HO_0, BK175, HB⟩ := hcut
                cases kq with
                | zero => exact absurd HA.out (by simp [towncrierref04_Make.j2])
                | succ kj17 =>
                  have H := HA.out
                  clear HA
                  simp only [towncrierref04_Make.j2] at H
                  by_cases c44 : x73_17 = true
                  · subst c44
                    have H1 : (some (l0, 0, 1)) = some (r1, r2, r3) := by rw [if_pos rfl] at H; exact H
                    clear H
                    have H := H1
                    clear H1
                    simp only [Option.some.injEq, Prod.mk.injEq] at H
                    obtain ⟨rfl, rfl, rfl⟩ := H
                    go_wp2
                    go_ret3
                    exact ⟨_, by first | rfl | (simp [errW_none, errW_some] <;> rfl) | (simp [*, errW_none, errW_some] <;> rfl), by (with_reducible repeat (first | apply Kd.V_alloc | apply Kd.V_drewN | apply Kd.V_drew)); exact Kd.V_mono HO_0.out (fun _ hk => hk.1), by repeat (first | (with_reducible first | exact HB.out | apply below_alloc | apply pw_below_drewN | apply below_drew1 | refine below_set ?_ GE175.out) | exact HB.out)⟩
                  · replace c44 := Bool.eq_false_iff.mpr c44
                    subst c44
                    have H1 : (if (l0.length : Int) ≥ 128 then (some (l0, 0, 9)) else ((towncrierref04_Copy.f kj17 l0).bind fun t182 => ((some (([(⟨a1_0, 0, 0, 0, a1_4, a1_5, a1_6, a1_7, ([] : List Int)⟩ : S61)] : List (S61)) : List (S61))).bind fun y185 => (if t182.length + y185.length < 1353245080339 then ((some (t182 ++ y185 : List (S61))).bind fun y188 => (some (y188, (y188.length : Int), 0))) else (none))))) = some (r1, r2, r3) := by rw [if_neg (show ¬ (false = true) by decide)] at H; exact H
                    clear H
                    have H := H1
                    clear H1
                    by_cases c45 : (l0.length : Int) ≥ 128
                    · rw [if_pos c45] at H
                      have c45b0 : decide (128 ≤ (l0.length : Int)) = true := decide_eq_true c45
                      have c45b1 : decide (128 ≤ l0.length) = true := decide_eq_true (by omega)
                      clear c45
                      simp only [Option.some.injEq, Prod.mk.injEq] at H
                      obtain ⟨rfl, rfl, rfl⟩ := H
                      go_wp2
                      go_ret3
                      exact ⟨_, by first | rfl | (simp [errW_none, errW_some] <;> rfl) | (simp [*, errW_none, errW_some] <;> rfl), by (with_reducible repeat (first | apply Kd.V_alloc | apply Kd.V_drewN | apply Kd.V_drew)); exact Kd.V_mono HO_0.out (fun _ hk => hk.1), by repeat (first | (with_reducible first | exact HB.out | apply below_alloc | apply pw_below_drewN | apply below_drew1 | refine below_set ?_ GE175.out) | exact HB.out)⟩
                    · rw [if_neg c45] at H
                      have c45b0 : decide (128 ≤ (l0.length : Int)) = false := decide_eq_false c45
                      have c45b1 : decide (128 ≤ l0.length) = false := decide_eq_false (by omega)
                      clear c45
                      replace H := Option.bind_eq_some_iff.mp H
                      obtain ⟨t182, A460, H⟩ := H
                      replace H : ((some (([(⟨a1_0, 0, 0, 0, a1_4, a1_5, a1_6, a1_7, ([] : List Int)⟩ : S61)] : List (S61)) : List (S61))).bind fun y185 => (if t182.length + y185.length < 1353245080339 then ((some (t182 ++ y185 : List (S61))).bind fun y188 => (some (y188, (y188.length : Int), 0))) else (none))) = some (r1, r2, r3) := H
                      have A46 := Aside0.mk A460
                      clear A460
                      obtain ⟨y185, hy185⟩ : ∃ y_ : List (S61), y_ = (([(⟨a1_0, 0, 0, 0, a1_4, a1_5, a1_6, a1_7, ([] : List Int)⟩ : S61)] : List (S61))) := ⟨_, rfl⟩
                      replace H : (if t182.length + y185.length < 1353245080339 then ((some (t182 ++ y185 : List (S61))).bind fun y188 => (some (y188, (y188.length : Int), 0))) else (none)) = some (r1, r2, r3) := by first | (rw [hy185]; with_reducible exact H) | (have H2_ := (Option.bind_some _ _).symm.trans H; rw [hy185]; with_reducible exact H2_) | (have H2_ := (Option.bind_some _ _).symm.trans H; with_reducible exact H2_) | with_reducible exact H | (rw [hy185]; exact H) | exact H
                      have Ny185 := Aside0.mk hy185
                      clear hy185
                      by_cases c47 : t182.length + y185.length < 1353245080339
                      · rw [if_pos c47] at H
                        have LMc47 := Aside0.mk c47
                        clear c47
                        obtain ⟨y188, hy188⟩ : ∃ y_ : List (S61), y_ = (t182 ++ y185) := ⟨_, rfl⟩
                        replace H : (some (y188, (y188.length : Int), 0)) = some (r1, r2, r3) := by first | (rw [hy188]; with_reducible exact H) | (have H2_ := (Option.bind_some _ _).symm.trans H; rw [hy188]; with_reducible exact H2_) | (have H2_ := (Option.bind_some _ _).symm.trans H; with_reducible exact H2_) | with_reducible exact H | (rw [hy188]; exact H) | exact H
                        have Ny188 := Aside0.mk hy188
                        clear hy188
                        simp only [Option.some.injEq, Prod.mk.injEq] at H
                        obtain ⟨rfl, rfl, rfl⟩ := H
                        try go_wp2
                        have n0_ := Aside0.mk (Kd.V_drew HO_0.out)
                        have n1_ := Aside0.mk (blk_drew BK175.out)
                        have n2_ := Aside0.mk (below_drew1 HB.out)
                        clear HO_0
                        clear BK175
                        clear HB
                        have HO_0 := n0_
                        have BK175 := n1_
                        have HB := n2_
                        clear n0_ n1_ n2_
                        refine start_ (n := 16) (S := fun w' => w'.cell? ⟨gb175, 0, none⟩ = some (.int .i64 a1_0) ∧ w'.cell? ⟨gb175, 1, none⟩ = some (.int .i64 a1_1) ∧ w'.cell? ⟨gb175, 2, none⟩ = some (.int .i64 a1_2) ∧ w'.cell? ⟨gb175, 3, none⟩ = some (.int .i64 a1_3) ∧ w'.cell? ⟨gb175, 4, none⟩ = some (.int .i64 a1_4) ∧ w'.cell? ⟨gb175, 5, none⟩ = some (.bool a1_5) ∧ w'.cell? ⟨gb175, 6, none⟩ = some (.string a1_6) ∧ w'.cell? ⟨gb175, 7, none⟩ = some (.string a1_7) ∧ w'.cell? ⟨gb175, 8, none⟩ = some (.slice A1_8 l1_8.length c1_8)) (ds := []) #[false, false, false, false, false, false, false, false, false, false, false, false, false, false, false, false] (by kernel_rfl) rfl rfl ⟨(blk_cell BK175.out 0).trans rfl, (blk_cell BK175.out 1).trans rfl, (blk_cell BK175.out 2).trans rfl, (blk_cell BK175.out 3).trans rfl, (blk_cell BK175.out 4).trans rfl, (blk_cell BK175.out 5).trans rfl, (blk_cell BK175.out 6).trans rfl, (blk_cell BK175.out 7).trans rfl, (blk_cell BK175.out 8).trans rfl⟩ (fun hHeld => ?_); refine with_tabW towncrierref04_Make.tab9 towncrierref04_Make.bits9 (fun HT_ HW_ => ?_)
                        generalize wc.drew = w48 at HO_0 BK175 HB hHeld ⊢
                        refine pure_ (i := 0) (N := some 79) (v := ?_) (a' := ?_) #[true, false, false, false, false, false, false, false, false, false, false, false, false, false, false, false] rfl rfl (any_of HT_.out (by kernel_rfl)) (fun _ _ _ h => h) (Or.inl ⟨by rfl, ?_⟩) ?_ ?_
                        rotate_left
                        · intro w'
                          go_simp
                          with_reducible rfl
                        rotate_left
                        · simp only [Act.put, List.setIfInBounds_toArray, List.set_cons_zero, List.set_cons_succ, i64_w, i32_w]
                          rfl
                        refine pure_ (i := 2) (N := some 81) (v := ?_) (a' := ?_) #[true, false, true, false, false, false, false, false, false, false, false, false, false, false, false, false] rfl rfl (any_of HT_.out (by kernel_rfl)) (fun _ _ _ h => h) (Or.inl ⟨by rfl, ?_⟩) ?_ ?_
                        rotate_left
                        · intro w'
                          go_simp
                          with_reducible rfl
                        rotate_left
                        · simp only [Act.put, List.setIfInBounds_toArray, List.set_cons_zero, List.set_cons_succ, i64_w, i32_w]
                          rfl
                        refine pure_ (i := 4) (N := some 83) (v := ?_) (a' := ?_) #[true, false, true, false, true, false, false, false, false, false, false, false, false, false, false, false] rfl rfl (any_of HT_.out (by kernel_rfl)) (fun _ _ _ h => h) (Or.inl ⟨by rfl, ?_⟩) ?_ ?_
                        rotate_left
                        · intro w'
                          go_simp
                          with_reducible rfl
                        rotate_left
                        · simp only [Act.put, List.setIfInBounds_toArray, List.set_cons_zero, List.set_cons_succ, i64_w, i32_w]
                          rfl
                        refine pure_ (i := 6) (N := some 85) (v := ?_) (a' := ?_) #[true, false, true, false, true, false, true, false, false, false, false, false, false, false, false, false] rfl rfl (any_of HT_.out (by kernel_rfl)) (fun _ _ _ h => h) (Or.inl ⟨by rfl, ?_⟩) ?_ ?_
                        rotate_left
                        · intro w'
                          go_simp
                          with_reducible rfl
                        rotate_left
                        · simp only [Act.put, List.setIfInBounds_toArray, List.set_cons_zero, List.set_cons_succ, i64_w, i32_w]
                          rfl
                        refine pure_ (i := 8) (N := some 87) (v := ?_) (a' := ?_) #[true, false, true, false, true, false, true, false, true, false, false, false, false, false, false, false] rfl rfl (any_of HT_.out (by kernel_rfl)) (fun _ _ _ h => h) (Or.inl ⟨by rfl, ?_⟩) ?_ ?_
                        rotate_left
                        · intro w'
                          go_simp
                          with_reducible rfl
                        rotate_left
                        · simp only [Act.put, List.setIfInBounds_toArray, List.set_cons_zero, List.set_cons_succ, i64_w, i32_w]
                          rfl
                        refine pure_ (i := 10) (N := some 89) (v := ?_) (a' := ?_) #[true, false, true, false, true, false, true, false, true, false, true, false, false, false, false, false] rfl rfl (any_of HT_.out (by kernel_rfl)) (fun _ _ _ h => h) (Or.inl ⟨by rfl, ?_⟩) ?_ ?_
                        rotate_left
                        · intro w'
                          go_simp
                          with_reducible rfl
                        rotate_left
                        · simp only [Act.put, List.setIfInBounds_toArray, List.set_cons_zero, List.set_cons_succ, i64_w, i32_w]
                          rfl
                        refine take_ (i := 3) (N := some 82) (v := ?_) (a' := ?_) #[true, false, true, true, true, false, true, false, true, false, true, false, false, false, false, false] rfl rfl (take_ofW HT_.out HW_.out (by kernel_rfl)) (fun _ _ _ h => h) (Or.inl ⟨by rfl, ?_⟩) hHeld ?_ ?_
                        rotate_left
                        · rintro w' ⟨s0, s1, s2, s3, s4, s5, s6, s7, s8⟩
                          go_simp
                          with_reducible rfl
                        rotate_left
                        · simp only [Act.put, List.setIfInBounds_toArray, List.set_cons_zero, List.set_cons_succ, i64_w, i32_w]
                          rfl
                        refine take_ (i := 5) (N := some 84) (v := ?_) (a' := ?_) #[true, false, true, true, true, true, true, false, true, false, true, false, false, false, false, false] rfl rfl (take_ofW HT_.out HW_.out (by kernel_rfl)) (fun _ _ _ h => h) (Or.inl ⟨by rfl, ?_⟩) hHeld ?_ ?_
                        rotate_left
                        · rintro w' ⟨s0, s1, s2, s3, s4, s5, s6, s7, s8⟩
                          go_simp
                          with_reducible rfl
                        rotate_left
                        · simp only [Act.put, List.setIfInBounds_toArray, List.set_cons_zero, List.set_cons_succ, i64_w, i32_w]
                          rfl
                        refine take_ (i := 7) (N := some 86) (v := ?_) (a' := ?_) #[true, false, true, true, true, true, true, true, true, false, true, false, false, false, false, false] rfl rfl (take_ofW HT_.out HW_.out (by kernel_rfl)) (fun _ _ _ h => h) (Or.inl ⟨by rfl, ?_⟩) hHeld ?_ ?_
                        rotate_left
                        · rintro w' ⟨s0, s1, s2, s3, s4, s5, s6, s7, s8⟩
                          go_simp
                          with_reducible rfl
                        rotate_left
                        · simp only [Act.put, List.setIfInBounds_toArray, List.set_cons_zero, List.set_cons_succ, i64_w, i32_w]
                          rfl
                        refine take_ (i := 9) (N := some 88) (v := ?_) (a' := ?_) #[true, false, true, true, true, true, true, true, true, true, true, false, false, false, false, false] rfl rfl (take_ofW HT_.out HW_.out (by kernel_rfl)) (fun _ _ _ h => h) (Or.inl ⟨by rfl, ?_⟩) hHeld ?_ ?_
                        rotate_left
                        · rintro w' ⟨s0, s1, s2, s3, s4, s5, s6, s7, s8⟩
                          go_simp
                          with_reducible rfl
                        rotate_left
                        · simp only [Act.put, List.setIfInBounds_toArray, List.set_cons_zero, List.set_cons_succ, i64_w, i32_w]
                          rfl
                        refine take_ (i := 11) (N := some 90) (v := ?_) (a' := ?_) #[true, false, true, true, true, true, true, true, true, true, true, true, false, false, false, false] rfl rfl (take_ofW HT_.out HW_.out (by kernel_rfl)) (fun _ _ _ h => h) (Or.inl ⟨by rfl, ?_⟩) hHeld ?_ ?_
                        rotate_left
                        · rintro w' ⟨s0, s1, s2, s3, s4, s5, s6, s7, s8⟩
                          go_simp
                          with_reducible rfl
                        rotate_left
                        · simp only [Act.put, List.setIfInBounds_toArray, List.set_cons_zero, List.set_cons_succ, i64_w, i32_w]
                          rfl
                        refine pure_ (i := 12) (N := some 91) (v := ?_) (a' := ?_) #[true, false, true, true, true, true, true, true, true, true, true, true, true, false, false, false] rfl rfl (any_of HT_.out (by kernel_rfl)) (fun _ _ _ h => h) (Or.inl ⟨by rfl, ?_⟩) ?_ ?_
                        rotate_left
                        · intro w'
                          go_simp
                          with_reducible rfl
                        rotate_left
                        · simp only [Act.put, List.setIfInBounds_toArray, List.set_cons_zero, List.set_cons_succ, i64_w, i32_w]
                          rfl
                        refine join_ (σ := Value × Value) 2 #[true, true, true, true, true, true, true, true, true, true, true, true, true, true, false, false] (fun s_ => [(80, s_.1), (92, s_.2)]) (fun s_ w' => (w'.cell? ⟨gb175, 0, none⟩ = some (.int .i64 a1_0) ∧ w'.cell? ⟨gb175, 1, none⟩ = some (.int .i64 a1_1) ∧ w'.cell? ⟨gb175, 2, none⟩ = some (.int .i64 a1_2) ∧ w'.cell? ⟨gb175, 3, none⟩ = some (.int .i64 a1_3) ∧ w'.cell? ⟨gb175, 4, none⟩ = some (.int .i64 a1_4) ∧ w'.cell? ⟨gb175, 5, none⟩ = some (.bool a1_5) ∧ w'.cell? ⟨gb175, 6, none⟩ = some (.string a1_6) ∧ w'.cell? ⟨gb175, 7, none⟩ = some (.string a1_7) ∧ w'.cell? ⟨gb175, 8, none⟩ = some (.slice A1_8 l1_8.length c1_8)) ∧ (Kd.N k61 61 w' w.heap.size (fun k_ => (P0_ k_ ∨ w.heap.size ≤ k_) ∧ some k_ ≠ (s_.2 : Value).ownBlock ∧ k_ ≠ gb175) s_.1 t182) ∧ (Kd.N k61 61 w' w.heap.size (fun k_ => (P0_ k_ ∨ w.heap.size ≤ k_) ∧ some k_ ≠ (s_.1 : Value).ownBlock ∧ k_ ≠ gb175) s_.2 y185) ∧ (Kd.V k61 61 w' w.heap.size (fun k_ => (P0_ k_ ∨ w.heap.size ≤ k_) ∧ some k_ ≠ (s_.1 : Value).ownBlock ∧ some k_ ≠ (s_.2 : Value).ownBlock ∧ k_ ≠ gb175) (.slice A0 l0.length c0) l0) ∧ (w'.heap[gb175]? = some (.cells #[.int .i64 a1_0, .int .i64 a1_1, .int .i64 a1_2, .int .i64 a1_3, .int .i64 a1_4, .bool a1_5, .string a1_6, .string a1_7, .slice A1_8 l1_8.length c1_8] 61 (0, 0))) ∧ (Below w.heap.size w w')) ?_ ?_
                        rotate_left
                        · intro hCont
                          refine two_ (i := 1) (j := 13) (Ni := some 80) (Nj := some 92) #[true, true, true, true, true, true, true, true, true, true, true, true, true, false, false, false] #[true, false, true, true, true, true, true, true, true, true, true, true, true, true, false, false] rfl rfl rfl rfl (two_of HT_.out (by kernel_rfl)) (by decide) (by decide) (fun K hK => ?_) (fun K hK => ?_)
                          · skip
                            refine goes_ Try.func66 (by kernel_rfl) rfl #[.slice A0 l0.length c0] (by rfl) rfl rfl (by (try simp only [List.map_toArray, List.map_cons, List.map_nil]); first | done | rfl | (simp only [List.length_drop, List.length_take]; rfl)) ?_
                            with_reducible refine (towncrierref04_Copy.calls kj17 (fun k_ => ((P0_ k_ ∨ w.heap.size ≤ k_) ∧ k_ ≠ gb175)) _ _ l0 t182 _ ?side1 A46.out).mono ?_
                            (case side1 => exact HO_0.out)
                            rintro e w49 ⟨v183, rfl, ho0, hb⟩
                            refine ⟨_, rfl, ?_⟩
                            have n0_ := Aside0.mk (Kd.V_elder' (by (with_reducible repeat (first | apply Kd.V_alloc | apply Kd.V_drewN | apply Kd.V_drew)); exact HO_0.out) (Kd.N_base ho0) hb)
                            have n1_ := Aside0.mk (Kd.N_lower (Kd.N_mono (ok' := fun k_ => (P0_ k_ ∨ w.heap.size ≤ k_) ∧ k_ ≠ gb175) ho0 (fun k_ hk_ => ⟨Or.elim hk_ (fun hs_ => hs_.1) (fun hn_ => (.inr (Nat.le_trans (below_size (by repeat (first | (with_reducible first | exact HB.out | apply below_alloc | apply pw_below_drewN | apply below_drew1 | refine below_set ?_ GE175.out) | exact HB.out))) hn_))), Or.elim hk_ (fun hs_ => hs_.2) (fun hn_ => (Kd.freshB (g := gb175) (o := .cells #[.int .i64 a1_0, .int .i64 a1_1, .int .i64 a1_2, .int .i64 a1_3, .int .i64 a1_4, .bool a1_5, .string a1_6, .string a1_7, .slice A1_8 l1_8.length c1_8] 61 (0, 0)) (by (with_reducible repeat (first | refine blk_drewN ?_ _ | refine blk_drew ?_ | refine blk_alloc ?_ _)); exact BK175.out) k_ hn_))⟩)) (below_size (by repeat (first | (with_reducible first | exact HB.out | apply below_alloc | apply pw_below_drewN | apply below_drew1 | refine below_set ?_ GE175.out) | exact HB.out))))
                            have n2_ := Aside0.mk (blk_below (g := gb175) (o := .cells #[.int .i64 a1_0, .int .i64 a1_1, .int .i64 a1_2, .int .i64 a1_3, .int .i64 a1_4, .bool a1_5, .string a1_6, .string a1_7, .slice A1_8 l1_8.length c1_8] 61 (0, 0)) (by (with_reducible repeat (first | refine blk_drewN ?_ _ | refine blk_drew ?_ | refine blk_alloc ?_ _)); exact BK175.out) hb)
                            have n3_ := Aside0.mk (below_step (by repeat (first | (with_reducible first | exact HB.out | apply below_alloc | apply pw_below_drewN | apply below_drew1 | refine below_set ?_ GE175.out) | exact HB.out)) hb)
                            clear HO_0
                            clear BK175
                            clear HB
                            have HO_0 := n0_
                            have HO184 := n1_
                            have BK175 := n2_
                            have HB := n3_
                            clear n0_ n1_ n2_ n3_
                            (try clear hb)
                            (try clear hb2)
                            (try clear hk)
                            (try clear hi)
                            (try clear ho0)
                            refine hK.out _ _ ⟨(blk_cell BK175.out 0).trans rfl, (blk_cell BK175.out 1).trans rfl, (blk_cell BK175.out 2).trans rfl, (blk_cell BK175.out 3).trans rfl, (blk_cell BK175.out 4).trans rfl, (blk_cell BK175.out 5).trans rfl, (blk_cell BK175.out 6).trans rfl, (blk_cell BK175.out 7).trans rfl, (blk_cell BK175.out 8).trans rfl⟩ (fun hHeld => ?_)
                            clear hK K
                            refine norm_ (a' := ?_) ?_ ?_
                            rotate_left
                            · show Act.put _ (some 80) _ = _
                              simp only [Act.put, List.setIfInBounds_toArray, List.set_cons_zero, List.set_cons_succ, i64_w, i32_w]
                              rfl
                            refine one_ (i := 13) (N := some 92) #[true, true, true, true, true, true, true, true, true, true, true, true, true, true, false, false] rfl rfl (one_of HT_.out (by kernel_rfl)) (by decide) (fun K hK => ?_)
                            refine Kd.N_lit_step k61 _ 61 ?hg (N' := 92) ?hd (xs := ([(⟨a1_0, 0, 0, 0, a1_4, a1_5, a1_6, a1_7, ([] : List Int)⟩ : S61)] : List (S61))) (inner := [.int .i64 a1_0, .int .i64 0, .int .i64 0, .int .i64 0, .int .i64 a1_4, .bool a1_5, .string a1_6, .string a1_7, .slice none 0 0]) (ok := (fun k_ => (P0_ k_ ∨ w.heap.size ≤ k_) ∧ some k_ ≠ (v183 : Value).ownBlock ∧ k_ ≠ gb175)) (okp := (fun k_ => (P0_ k_ ∨ w.heap.size ≤ k_) ∧ some k_ ≠ (v183 : Value).ownBlock ∧ k_ ≠ gb175)) ?hr ?hp (fun _ hk => hk) ((show ∀ k_, w49.heap.size ≤ k_ → (fun k_ => (P0_ k_ ∨ w.heap.size ≤ k_) ∧ some k_ ≠ (v183 : Value).ownBlock ∧ k_ ≠ gb175) k_ from fun k_ hk => ⟨(.inr (Nat.le_trans (below_size (by repeat (first | (with_reducible first | exact HB.out | apply below_alloc | apply pw_below_drewN | apply below_drew1 | refine below_set ?_ GE175.out) | exact HB.out))) hk)), Kd.fresh' (Kd.N_lt (by (with_reducible repeat (first | apply Kd.N_alloc | apply Kd.N_drewN | apply Kd.N_drew)); exact HO184.out)) k_ hk, Kd.freshB (g := gb175) (o := .cells #[.int .i64 a1_0, .int .i64 a1_1, .int .i64 a1_2, .int .i64 a1_3, .int .i64 a1_4, .bool a1_5, .string a1_6, .string a1_7, .slice A1_8 l1_8.length c1_8] 61 (0, 0)) (by (with_reducible repeat (first | refine blk_drewN ?_ _ | refine blk_drew ?_ | refine blk_alloc ?_ _)); exact BK175.out) k_ hk⟩) _ (Nat.le_refl _)) (Below.refl _ _) (Nat.le_refl _) (by simp) ?_; (case hd => rfl); (case hg => rfl); (case hr => first | (go_simp; done) | (go_simp; rfl)); (case hp => exact (Reps.c9 (show Kd.FK k61 _ _ (⟨a1_0, 0, 0, 0, a1_4, a1_5, a1_6, a1_7, ([] : List Int)⟩ : S61) [.int .i64 a1_0, .int .i64 0, .int .i64 0, .int .i64 0, .int .i64 a1_4, .bool a1_5, .string a1_6, .string a1_7, .slice none 0 0] from (k61_mkF _ _ (⟨a1_0, 0, 0, 0, a1_4, a1_5, a1_6, a1_7, ([] : List Int)⟩ : S61) (Nat.le_refl _) (Kd.F_nil _ _ _))) (Reps.none _ _)))
                            intro v186 w50 ho51 hb hg_ hnew_
                            clear hg_ hnew_
                            (first | rw [← Ny185.out] at ho51 | (simp only [Int.reduceToNat] at ho51; rw [← Ny185.out] at ho51))
                            have n0_ := Aside0.mk (Kd.V_elder' (by (with_reducible repeat (first | apply Kd.V_alloc | apply Kd.V_drewN | apply Kd.V_drew)); exact HO_0.out) (Kd.N_base ho51) hb)
                            have n1_ := Aside0.mk (Kd.N_elder' (by (with_reducible repeat (first | apply Kd.N_alloc | apply Kd.N_drewN | apply Kd.N_drew)); exact HO184.out) (Kd.N_base ho51) hb)
                            have n2_ := Aside0.mk (Kd.N_lower ho51 (below_size (by repeat (first | (with_reducible first | exact HB.out | apply below_alloc | apply pw_below_drewN | apply below_drew1 | refine below_set ?_ GE175.out) | exact HB.out))))
                            have n3_ := Aside0.mk (blk_below (g := gb175) (o := .cells #[.int .i64 a1_0, .int .i64 a1_1, .int .i64 a1_2, .int .i64 a1_3, .int .i64 a1_4, .bool a1_5, .string a1_6, .string a1_7, .slice A1_8 l1_8.length c1_8] 61 (0, 0)) (by (with_reducible repeat (first | refine blk_drewN ?_ _ | refine blk_drew ?_ | refine blk_alloc ?_ _)); exact BK175.out) hb)
                            have n4_ := Aside0.mk (below_step (by repeat (first | (with_reducible first | exact HB.out | apply below_alloc | apply pw_below_drewN | apply below_drew1 | refine below_set ?_ GE175.out) | exact HB.out)) hb)
                            clear HO_0
                            clear HO184
                            clear BK175
                            clear HB
                            have HO_0 := n0_
                            have HO184 := n1_
                            have HO187 := n2_
                            have BK175 := n3_
                            have HB := n4_
                            clear n0_ n1_ n2_ n3_ n4_
                            clear hb ho51
                            refine hK.out _ _ ⟨(blk_cell BK175.out 0).trans rfl, (blk_cell BK175.out 1).trans rfl, (blk_cell BK175.out 2).trans rfl, (blk_cell BK175.out 3).trans rfl, (blk_cell BK175.out 4).trans rfl, (blk_cell BK175.out 5).trans rfl, (blk_cell BK175.out 6).trans rfl, (blk_cell BK175.out 7).trans rfl, (blk_cell BK175.out 8).trans rfl⟩ (fun hHeld => ?_)
                            clear hK K
                            refine norm_ (a' := ?_) ?_ ?_
                            rotate_left
                            · show Act.put _ (some 92) _ = _
                              simp only [Act.put, List.setIfInBounds_toArray, List.set_cons_zero, List.set_cons_succ, i64_w, i32_w]
                              rfl
                            exact norm_ (by simp only [putAll, Act.put, List.setIfInBounds_toArray, List.set_cons_zero, List.set_cons_succ]) (hCont (v183, v186) _ ⟨hHeld, (by (with_reducible repeat (first | apply Kd.N_alloc | apply Kd.N_drewN | apply Kd.N_drew)); exact Kd.N_mono HO184.out (fun _ hk => ⟨hk.1.1, ⟨hk.2, hk.1.2⟩⟩)), (by (with_reducible repeat (first | apply Kd.N_alloc | apply Kd.N_drewN | apply Kd.N_drew)); exact HO187.out), (by (with_reducible repeat (first | apply Kd.V_alloc | apply Kd.V_drewN | apply Kd.V_drew)); exact Kd.V_mono HO_0.out (fun _ hk => ⟨hk.1.1.1, ⟨hk.1.2, ⟨hk.2, hk.1.1.2⟩⟩⟩)), (by (with_reducible repeat (first | refine blk_drewN ?_ _ | refine blk_drew ?_ | refine blk_alloc ?_ _)); exact BK175.out), (by repeat (first | (with_reducible first | exact HB.out | apply below_alloc | apply pw_below_drewN | apply below_drew1 | refine below_set ?_ GE175.out) | exact HB.out))⟩)
                          · skip
                            refine Kd.N_lit_step k61 _ 61 ?hg (N' := 92) ?hd (xs := ([(⟨a1_0, 0, 0, 0, a1_4, a1_5, a1_6, a1_7, ([] : List Int)⟩ : S61)] : List (S61))) (inner := [.int .i64 a1_0, .int .i64 0, .int .i64 0, .int .i64 0, .int .i64 a1_4, .bool a1_5, .string a1_6, .string a1_7, .slice none 0 0]) (ok := (fun k_ => (P0_ k_ ∨ w.heap.size ≤ k_) ∧ k_ ≠ gb175)) (okp := (fun k_ => (P0_ k_ ∨ w.heap.size ≤ k_) ∧ k_ ≠ gb175)) ?hr ?hp (fun _ hk => hk) ((show ∀ k_, w48.heap.size ≤ k_ → (fun k_ => (P0_ k_ ∨ w.heap.size ≤ k_) ∧ k_ ≠ gb175) k_ from fun k_ hk => ⟨(.inr (Nat.le_trans (below_size (by repeat (first | (with_reducible first | exact HB.out | apply below_alloc | apply pw_below_drewN | apply below_drew1 | refine below_set ?_ GE175.out) | exact HB.out))) hk)), Kd.freshB (g := gb175) (o := .cells #[.int .i64 a1_0, .int .i64 a1_1, .int .i64 a1_2, .int .i64 a1_3, .int .i64 a1_4, .bool a1_5, .string a1_6, .string a1_7, .slice A1_8 l1_8.length c1_8] 61 (0, 0)) (by (with_reducible repeat (first | refine blk_drewN ?_ _ | refine blk_drew ?_ | refine blk_alloc ?_ _)); exact BK175.out) k_ hk⟩) _ (Nat.le_refl _)) (Below.refl _ _) (Nat.le_refl _) (by simp) ?_; (case hd => rfl); (case hg => rfl); (case hr => first | (go_simp; done) | (go_simp; rfl)); (case hp => exact (Reps.c9 (show Kd.FK k61 _ _ (⟨a1_0, 0, 0, 0, a1_4, a1_5, a1_6, a1_7, ([] : List Int)⟩ : S61) [.int .i64 a1_0, .int .i64 0, .int .i64 0, .int .i64 0, .int .i64 a1_4, .bool a1_5, .string a1_6, .string a1_7, .slice none 0 0] from (k61_mkF _ _ (⟨a1_0, 0, 0, 0, a1_4, a1_5, a1_6, a1_7, ([] : List Int)⟩ : S61) (Nat.le_refl _) (Kd.F_nil _ _ _))) (Reps.none _ _)))
                            intro v186 w49 ho50 hb hg_ hnew_
                            clear hg_ hnew_
                            (first | rw [← Ny185.out] at ho50 | (simp only [Int.reduceToNat] at ho50; rw [← Ny185.out] at ho50))
                            have n0_ := Aside0.mk (Kd.V_elder' (by (with_reducible repeat (first | apply Kd.V_alloc | apply Kd.V_drewN | apply Kd.V_drew)); exact HO_0.out) (Kd.N_base ho50) hb)
                            have n1_ := Aside0.mk (Kd.N_lower ho50 (below_size (by repeat (first | (with_reducible first | exact HB.out | apply below_alloc | apply pw_below_drewN | apply below_drew1 | refine below_set ?_ GE175.out) | exact HB.out))))
                            have n2_ := Aside0.mk (blk_below (g := gb175) (o := .cells #[.int .i64 a1_0, .int .i64 a1_1, .int .i64 a1_2, .int .i64 a1_3, .int .i64 a1_4, .bool a1_5, .string a1_6, .string a1_7, .slice A1_8 l1_8.length c1_8] 61 (0, 0)) (by (with_reducible repeat (first | refine blk_drewN ?_ _ | refine blk_drew ?_ | refine blk_alloc ?_ _)); exact BK175.out) hb)
                            have n3_ := Aside0.mk (below_step (by repeat (first | (with_reducible first | exact HB.out | apply below_alloc | apply pw_below_drewN | apply below_drew1 | refine below_set ?_ GE175.out) | exact HB.out)) hb)
                            clear HO_0
                            clear BK175
                            clear HB
                            have HO_0 := n0_
                            have HO187 := n1_
                            have BK175 := n2_
                            have HB := n3_
                            clear n0_ n1_ n2_ n3_
                            clear hb ho50
                            refine hK.out _ _ ⟨(blk_cell BK175.out 0).trans rfl, (blk_cell BK175.out 1).trans rfl, (blk_cell BK175.out 2).trans rfl, (blk_cell BK175.out 3).trans rfl, (blk_cell BK175.out 4).trans rfl, (blk_cell BK175.out 5).trans rfl, (blk_cell BK175.out 6).trans rfl, (blk_cell BK175.out 7).trans rfl, (blk_cell BK175.out 8).trans rfl⟩ (fun hHeld => ?_)
                            clear hK K
                            refine norm_ (a' := ?_) ?_ ?_
                            rotate_left
                            · show Act.put _ (some 92) _ = _
                              simp only [Act.put, List.setIfInBounds_toArray, List.set_cons_zero, List.set_cons_succ, i64_w, i32_w]
                              rfl
                            refine one_ (i := 1) (N := some 80) #[true, true, true, true, true, true, true, true, true, true, true, true, true, true, false, false] rfl rfl (one_of HT_.out (by kernel_rfl)) (by decide) (fun K hK => ?_)
                            refine goes_ Try.func66 (by kernel_rfl) rfl #[.slice A0 l0.length c0] (by rfl) rfl rfl (by (try simp only [List.map_toArray, List.map_cons, List.map_nil]); first | done | rfl | (simp only [List.length_drop, List.length_take]; rfl)) ?_
                            with_reducible refine (towncrierref04_Copy.calls kj17 (fun k_ => (((P0_ k_ ∨ w.heap.size ≤ k_) ∧ k_ ≠ gb175) ∧ some k_ ≠ (v186 : Value).ownBlock)) _ _ l0 t182 _ ?side1 A46.out).mono ?_
                            (case side1 => exact HO_0.out)
                            rintro e w51 ⟨v183, rfl, ho0, hb⟩
                            refine ⟨_, rfl, ?_⟩
                            have n0_ := Aside0.mk (Kd.V_elder' (by (with_reducible repeat (first | apply Kd.V_alloc | apply Kd.V_drewN | apply Kd.V_drew)); exact HO_0.out) (Kd.N_base ho0) hb)
                            have n1_ := Aside0.mk (Kd.N_elder' (by (with_reducible repeat (first | apply Kd.N_alloc | apply Kd.N_drewN | apply Kd.N_drew)); exact HO187.out) (Kd.N_base ho0) hb)
                            have n2_ := Aside0.mk (Kd.N_lower (Kd.N_mono (ok' := fun k_ => (P0_ k_ ∨ w.heap.size ≤ k_) ∧ some k_ ≠ (v186 : Value).ownBlock ∧ k_ ≠ gb175) ho0 (fun k_ hk_ => ⟨Or.elim hk_ (fun hs_ => hs_.1.1) (fun hn_ => (.inr (Nat.le_trans (below_size (by repeat (first | (with_reducible first | exact HB.out | apply below_alloc | apply pw_below_drewN | apply below_drew1 | refine below_set ?_ GE175.out) | exact HB.out))) hn_))), Or.elim hk_ (fun hs_ => hs_.2) (fun hn_ => (Kd.fresh' (Kd.N_lt (by (with_reducible repeat (first | apply Kd.N_alloc | apply Kd.N_drewN | apply Kd.N_drew)); exact HO187.out)) k_ hn_)), Or.elim hk_ (fun hs_ => hs_.1.2) (fun hn_ => (Kd.freshB (g := gb175) (o := .cells #[.int .i64 a1_0, .int .i64 a1_1, .int .i64 a1_2, .int .i64 a1_3, .int .i64 a1_4, .bool a1_5, .string a1_6, .string a1_7, .slice A1_8 l1_8.length c1_8] 61 (0, 0)) (by (with_reducible repeat (first | refine blk_drewN ?_ _ | refine blk_drew ?_ | refine blk_alloc ?_ _)); exact BK175.out) k_ hn_))⟩)) (below_size (by repeat (first | (with_reducible first | exact HB.out | apply below_alloc | apply pw_below_drewN | apply below_drew1 | refine below_set ?_ GE175.out) | exact HB.out))))
                            have n3_ := Aside0.mk (blk_below (g := gb175) (o := .cells #[.int .i64 a1_0, .int .i64 a1_1, .int .i64 a1_2, .int .i64 a1_3, .int .i64 a1_4, .bool a1_5, .string a1_6, .string a1_7, .slice A1_8 l1_8.length c1_8] 61 (0, 0)) (by (with_reducible repeat (first | refine blk_drewN ?_ _ | refine blk_drew ?_ | refine blk_alloc ?_ _)); exact BK175.out) hb)
                            have n4_ := Aside0.mk (below_step (by repeat (first | (with_reducible first | exact HB.out | apply below_alloc | apply pw_below_drewN | apply below_drew1 | refine below_set ?_ GE175.out) | exact HB.out)) hb)
                            clear HO_0
                            clear HO187
                            clear BK175
                            clear HB
                            have HO_0 := n0_
                            have HO187 := n1_
                            have HO184 := n2_
                            have BK175 := n3_
                            have HB := n4_
                            clear n0_ n1_ n2_ n3_ n4_
                            (try clear hb)
                            (try clear hb2)
                            (try clear hk)
                            (try clear hi)
                            (try clear ho0)
                            refine hK.out _ _ ⟨(blk_cell BK175.out 0).trans rfl, (blk_cell BK175.out 1).trans rfl, (blk_cell BK175.out 2).trans rfl, (blk_cell BK175.out 3).trans rfl, (blk_cell BK175.out 4).trans rfl, (blk_cell BK175.out 5).trans rfl, (blk_cell BK175.out 6).trans rfl, (blk_cell BK175.out 7).trans rfl, (blk_cell BK175.out 8).trans rfl⟩ (fun hHeld => ?_)
                            clear hK K
                            refine norm_ (a' := ?_) ?_ ?_
                            rotate_left
                            · show Act.put _ (some 80) _ = _
                              simp only [Act.put, List.setIfInBounds_toArray, List.set_cons_zero, List.set_cons_succ, i64_w, i32_w]
                              rfl
                            exact norm_ (by simp only [putAll, Act.put, List.setIfInBounds_toArray, List.set_cons_zero, List.set_cons_succ]) (hCont (v183, v186) _ ⟨hHeld, (by (with_reducible repeat (first | apply Kd.N_alloc | apply Kd.N_drewN | apply Kd.N_drew)); exact HO184.out), (by (with_reducible repeat (first | apply Kd.N_alloc | apply Kd.N_drewN | apply Kd.N_drew)); exact Kd.N_mono HO187.out (fun _ hk => ⟨hk.1.1, ⟨hk.2, hk.1.2⟩⟩)), (by (with_reducible repeat (first | apply Kd.V_alloc | apply Kd.V_drewN | apply Kd.V_drew)); exact Kd.V_mono HO_0.out (fun _ hk => ⟨hk.1.1.1, ⟨hk.2, ⟨hk.1.2, hk.1.1.2⟩⟩⟩)), (by (with_reducible repeat (first | refine blk_drewN ?_ _ | refine blk_drew ?_ | refine blk_alloc ?_ _)); exact BK175.out), (by repeat (first | (with_reducible first | exact HB.out | apply below_alloc | apply pw_below_drewN | apply below_drew1 | refine below_set ?_ GE175.out) | exact HB.out))⟩)
                        rintro ⟨v183, v186⟩ w52 ⟨hS_, h0_, h1_, h2_, h3_, h4_⟩
                        have n0_ : Aside0 (Kd.N k61 61 w52 w.heap.size (fun k_ => (P0_ k_ ∨ w.heap.size ≤ k_) ∧ some k_ ≠ (v186 : Value).ownBlock ∧ k_ ≠ gb175) v183 t182) := ⟨h0_⟩
                        have n1_ : Aside0 (Kd.N k61 61 w52 w.heap.size (fun k_ => (P0_ k_ ∨ w.heap.size ≤ k_) ∧ some k_ ≠ (v183 : Value).ownBlock ∧ k_ ≠ gb175) v186 y185) := ⟨h1_⟩
                        have n2_ : Aside0 (Kd.V k61 61 w52 w.heap.size (fun k_ => (P0_ k_ ∨ w.heap.size ≤ k_) ∧ some k_ ≠ (v183 : Value).ownBlock ∧ some k_ ≠ (v186 : Value).ownBlock ∧ k_ ≠ gb175) (.slice A0 l0.length c0) l0) := ⟨h2_⟩
                        have n3_ : Aside0 (w52.heap[gb175]? = some (.cells #[.int .i64 a1_0, .int .i64 a1_1, .int .i64 a1_2, .int .i64 a1_3, .int .i64 a1_4, .bool a1_5, .string a1_6, .string a1_7, .slice A1_8 l1_8.length c1_8] 61 (0, 0))) := ⟨h3_⟩
                        have n4_ : Aside0 (Below w.heap.size w w52) := ⟨h4_⟩
                        clear HO_0
                        clear BK175
                        clear HB
                        clear h0_ h1_ h2_ h3_ h4_
                        have HO184 := n0_
                        have HO187 := n1_
                        have HO_0 := n2_
                        have BK175 := n3_
                        have HB := n4_
                        clear n0_ n1_ n2_ n3_ n4_
                        have hHeld : w52.cell? ⟨gb175, 0, none⟩ = some (.int .i64 a1_0) ∧ w52.cell? ⟨gb175, 1, none⟩ = some (.int .i64 a1_1) ∧ w52.cell? ⟨gb175, 2, none⟩ = some (.int .i64 a1_2) ∧ w52.cell? ⟨gb175, 3, none⟩ = some (.int .i64 a1_3) ∧ w52.cell? ⟨gb175, 4, none⟩ = some (.int .i64 a1_4) ∧ w52.cell? ⟨gb175, 5, none⟩ = some (.bool a1_5) ∧ w52.cell? ⟨gb175, 6, none⟩ = some (.string a1_6) ∧ w52.cell? ⟨gb175, 7, none⟩ = some (.string a1_7) ∧ w52.cell? ⟨gb175, 8, none⟩ = some (.slice A1_8 l1_8.length c1_8) := hS_
                        obtain ⟨Ao54, co54, eo54⟩ := Kd.N_slice HO187.out
                        (first | subst eo54 | (injection eo54 with f1_ f2_ f3_; have f4_ := f1_.symm; have f5_ := f3_.symm; clear f1_ f2_ f3_; subst f4_; subst f5_))
                        refine norm_ (a' := ?_) ?_ ?_
                        rotate_left
                        · simp only [putAll, Act.put, List.setIfInBounds_toArray, List.set_cons_zero, List.set_cons_succ]
                          rfl
                        refine one_ (i := 14) (N := some 93) #[true, true, true, true, true, true, true, true, true, true, true, true, true, true, true, false] rfl rfl (one_of HT_.out (by kernel_rfl)) (by decide) (fun K hK => ?_)
                        refine Kd.N_append_rows_step k61 (w0 := w) w.heap.size (by rfl) (.tmp 80) (.tmp 92) 48 61 (.agg #[(.int .i64 0), (.int .i64 0), (.int .i64 0), (.int .i64 0), (.int .i64 0), (.bool false), (.string ⟨#[]⟩), (.string ⟨#[]⟩), (.slice none 0 0)]) 104 rfl Try.underlying48 info61 rfl (by decide) (by omega) v183 t182 y185 _ _ _ (fun k_ => (P0_ k_ ∨ w.heap.size ≤ k_) ∧ k_ ≠ gb175) (fun k_ => ((fun k_ => (P0_ k_ ∨ w.heap.size ≤ k_) ∧ k_ ≠ gb175)) k_ ∧ some k_ ≠ (v183 : Value).ownBlock) rfl rfl ?aO ?aR (fun _ hk => hk) ?aF ?aB ?aS ?aL ?_
                        (case aR => exact (by skip; exact Kd.N_F (Kd.N_mono (ok' := (fun k_ => ((fun k_ => (P0_ k_ ∨ w.heap.size ≤ k_) ∧ k_ ≠ gb175)) k_ ∧ some k_ ≠ (v183 : Value).ownBlock)) (HO187.out) (fun k_ hk => ⟨⟨hk.1, hk.2.2⟩, hk.2.1⟩))))
                        (case aB => exact (by repeat (first | (with_reducible first | exact HB.out | apply below_alloc | apply pw_below_drewN | apply below_drew1 | refine below_set ?_ GE175.out) | exact HB.out)))
                        (case aF => exact (fun k_ hk => ⟨(.inr (Nat.le_trans (below_size (by repeat (first | (with_reducible first | exact HB.out | apply below_alloc | apply pw_below_drewN | apply below_drew1 | refine below_set ?_ GE175.out) | exact HB.out))) hk)), Kd.freshB (g := gb175) (o := .cells #[.int .i64 a1_0, .int .i64 a1_1, .int .i64 a1_2, .int .i64 a1_3, .int .i64 a1_4, .bool a1_5, .string a1_6, .string a1_7, .slice A1_8 l1_8.length c1_8] 61 (0, 0)) (by (with_reducible repeat (first | refine blk_drewN ?_ _ | refine blk_drew ?_ | refine blk_alloc ?_ _)); exact BK175.out) k_ hk⟩))
                        (case aO => exact (by (with_reducible repeat (first | apply Kd.N_alloc | apply Kd.N_drewN | apply Kd.N_drew)); exact Kd.N_mono HO184.out (fun _ hk => ⟨hk.1, hk.2.2⟩)))
                        (case aS => exact (below_size (by repeat (first | (with_reducible first | exact HB.out | apply below_alloc | apply pw_below_drewN | apply below_drew1 | refine below_set ?_ GE175.out) | exact HB.out))))
                        (case aL => have := LMc47.out; omega)
                        intro v189 w53 ho hb hg hat
                        rw [← Ny188.out] at ho
                        have n0_ := Aside0.mk (Kd.V_afterv (ok := (fun k_ => (P0_ k_ ∨ w.heap.size ≤ k_) ∧ some k_ ≠ (.slice Ao54 y185.length co54 : Value).ownBlock ∧ k_ ≠ gb175)) (by (with_reducible repeat (first | apply Kd.V_alloc | apply Kd.V_drewN | apply Kd.V_drew)); exact Kd.V_mono HO_0.out (fun _ hk => ⟨⟨hk.1, ⟨hk.2.2.1, hk.2.2.2⟩⟩, hk.2.1⟩)) hg hat)
                        have n1_ := Aside0.mk (blk_grown (g := gb175) (o := .cells #[.int .i64 a1_0, .int .i64 a1_1, .int .i64 a1_2, .int .i64 a1_3, .int .i64 a1_4, .bool a1_5, .string a1_6, .string a1_7, .slice A1_8 l1_8.length c1_8] 61 (0, 0)) (by (with_reducible repeat (first | refine blk_drewN ?_ _ | refine blk_drew ?_ | refine blk_alloc ?_ _)); exact BK175.out) hg (Kd.N_away HO184.out (fun _ hk => hk.2.2)))
                        have n2_ := Aside0.mk (Kd.N_afterv (ok := (fun k_ => (P0_ k_ ∨ w.heap.size ≤ k_) ∧ k_ ≠ gb175)) (by (with_reducible repeat (first | apply Kd.N_alloc | apply Kd.N_drewN | apply Kd.N_drew)); exact Kd.N_mono HO187.out (fun _ hk => ⟨⟨hk.1, hk.2.2⟩, hk.2.1⟩)) hg hat)
                        have n3_ := Aside0.mk (hb)
                        have n4_ := Aside0.mk (ho)
                        clear HO_0
                        clear BK175
                        clear HO187
                        clear HB
                        clear HO184
                        have HO_0 := n0_
                        have BK175 := n1_
                        have HO187 := n2_
                        have HB := n3_
                        have HO190 := n4_
                        clear n0_ n1_ n2_ n3_ n4_
                        clear ho hb hg hat
                        refine hK.out _ _ ⟨(blk_cell BK175.out 0).trans rfl, (blk_cell BK175.out 1).trans rfl, (blk_cell BK175.out 2).trans rfl, (blk_cell BK175.out 3).trans rfl, (blk_cell BK175.out 4).trans rfl, (blk_cell BK175.out 5).trans rfl, (blk_cell BK175.out 6).trans rfl, (blk_cell BK175.out 7).trans rfl, (blk_cell BK175.out 8).trans rfl⟩ (fun hHeld => ?_)
                        clear hK K
                        refine norm_ (a' := ?_) ?_ ?_
                        rotate_left
                        · show Act.put _ (some 93) _ = _
                          simp only [Act.put, List.setIfInBounds_toArray, List.set_cons_zero, List.set_cons_succ, i64_w, i32_w]
                          rfl
                        refine pure_ (i := 15) (N := some 0) (v := ?_) (a' := ?_) #[true, true, true, true, true, true, true, true, true, true, true, true, true, true, true, true] rfl rfl (any_of HT_.out (by kernel_rfl)) (fun _ _ _ h => h) (Or.inl ⟨by rfl, ?_⟩) ?_ ?_
                        rotate_left
                        · intro w'
                          go_simp
                          with_reducible rfl
                        rotate_left
                        · simp only [Act.put, List.setIfInBounds_toArray, List.set_cons_zero, List.set_cons_succ, i64_w, i32_w]
                          rfl
                        refine done_ (done_of HT_.out (by kernel_rfl)) ?_
                        obtain ⟨Ao55, co55, eo55⟩ := Kd.N_slice HO190.out
                        subst eo55
                        try go_wp2
                        go_ret3
                        exact ⟨_, by first | rfl | (simp [errW_none, errW_some] <;> rfl) | (simp [*, errW_none, errW_some] <;> rfl), Kd.N_V (by (with_reducible repeat (first | apply Kd.N_alloc | apply Kd.N_drewN | apply Kd.N_drew)); exact Kd.N_mono HO190.out (fun _ hk => hk.1)), by repeat (first | (with_reducible first | exact HB.out | apply below_alloc | apply pw_below_drewN | apply below_drew1 | refine below_set ?_ GE175.out) | exact HB.out)⟩
                      · rw [if_neg c47] at H
                        exact absurd H (by simp)

/-! ### towncrierref04_Over: function 67 -/
mutual
def towncrierref04_Over.l0 : Nat → List (S61) → Int → List Int → Int → Option (List Int)
  | 0, _, _, _, _ => none
  | k + 1, x0, x1, x5, x6 => if x6 ≤ (x0.length : Int) then ((towncrierref04_There.f x0 x1).bind fun t191 => (towncrierref04_Over.j1 k x0 x1 x5 x6 t191)) else (towncrierref04_Over.j1 k x0 x1 x5 x6 false)
def towncrierref04_Over.j1 : Nat → List (S61) → Int → List Int → Int → Bool → Option (List Int)
  | 0, _, _, _, _, _ => none
  | k + 1, x0, x1, x5, x6, x16 => if x16 = true then (if x5.length < 17592186044416 then ((some (x5 ++ [x1] : List Int)).bind fun y192 => (if 0 ≤ (wrap64 (x1 - 1)) then (if (wrap64 (x1 - 1)) < (x0.length : Int) then (if ((rd_T61 x0 (wrap64 (x1 - 1))).f1) = 0 then (towncrierref04_Over.l0 k x0 ((rd_T61 x0 (wrap64 (x1 - 1))).f2) y192 (wrap64 (x6 + 1))) else (towncrierref04_Over.l0 k x0 ((rd_T61 x0 (wrap64 (x1 - 1))).f1) y192 (wrap64 (x6 + 1)))) else (none)) else (none))) else (none)) else (some x5)
end
def towncrierref04_Over.f (k : Nat) (l0 : List (S61)) (a1 : Int) : Option (List Int) := towncrierref04_Over.l0 k l0 a1 ([] : List Int) 0
theorem towncrierref04_Over.mono_l : ∀ k, (∀ y0 y1 y2 y3, LeO (towncrierref04_Over.l0 k y0 y1 y2 y3) (towncrierref04_Over.l0 (k + 1) y0 y1 y2 y3)) ∧ (∀ y0 y1 y2 y3 y4, LeO (towncrierref04_Over.j1 k y0 y1 y2 y3 y4) (towncrierref04_Over.j1 (k + 1) y0 y1 y2 y3 y4))
  | 0 => ⟨fun _ _ _ _ r h => by simp [towncrierref04_Over.l0] at h, fun _ _ _ _ _ r h => by simp [towncrierref04_Over.j1] at h⟩
  | k + 1 => by
    obtain ⟨ih0, ih1⟩ := towncrierref04_Over.mono_l k
    refine ⟨?_, ?_⟩
    · intro y0 y1 y2 y3
      unfold towncrierref04_Over.l0
      repeat' first
      | (with_reducible exact ih0 _ _ _ _)
      | (with_reducible exact ih1 _ _ _ _ _)
      | (with_reducible exact LeO.refl _)
      | (with_reducible exact LeO.none _)
      | (with_reducible refine LeO.ite ?_ ?_)
      | (with_reducible refine LeO.bind ?_ (fun _ => ?_))
      | exact ih0 _ _ _ _
      | exact ih1 _ _ _ _ _
      | exact LeO.none _
      | refine LeO.ite ?_ ?_
      | refine LeO.bind ?_ (fun _ => ?_)
    · intro y0 y1 y2 y3 y4
      unfold towncrierref04_Over.j1
      repeat' first
      | (with_reducible exact ih0 _ _ _ _)
      | (with_reducible exact ih1 _ _ _ _ _)
      | (with_reducible exact LeO.refl _)
      | (with_reducible exact LeO.none _)
      | (with_reducible refine LeO.ite ?_ ?_)
      | (with_reducible refine LeO.bind ?_ (fun _ => ?_))
      | exact ih0 _ _ _ _
      | exact ih1 _ _ _ _ _
      | exact LeO.none _
      | refine LeO.ite ?_ ?_
      | refine LeO.bind ?_ (fun _ => ?_)
theorem towncrierref04_Over.mono : ∀ a0 a1 k, LeO (towncrierref04_Over.f k a0 a1) (towncrierref04_Over.f (k + 1) a0 a1) := by
  intro a0 a1 k
  obtain ⟨ih0, ih1⟩ := towncrierref04_Over.mono_l k
  unfold towncrierref04_Over.f
  repeat' first
      | (with_reducible exact ih0 _ _ _ _)
      | (with_reducible exact ih1 _ _ _ _ _)
      | (with_reducible exact LeO.refl _)
      | (with_reducible exact LeO.none _)
      | (with_reducible refine LeO.ite ?_ ?_)
      | (with_reducible refine LeO.bind ?_ (fun _ => ?_))
      | exact ih0 _ _ _ _
      | exact ih1 _ _ _ _ _
      | exact LeO.none _
      | refine LeO.ite ?_ ?_
      | refine LeO.bind ?_ (fun _ => ?_)
set_option maxHeartbeats 8000000 in
set_option maxRecDepth 100000 in
theorem towncrierref04_Over.calls (k : Nat) (A0 : Option Addr) (c0 : Nat) (l0 : List (S61)) (a1 : Int) (r : List Int) (w : World) (hr0 : Kd.C k61 w A0 l0.length l0) (hc0 : l0.length ≤ c0) (h : towncrierref04_Over.f k l0 a1 = some r) :
    Calls Try.prog 67 #[.slice A0 l0.length c0, .int .i64 a1] w fun e w' => ∃ v0_ : Value, e = .returned (v0_) ∧ Kd.R (Kd.int .i64) 3 w' w.heap.size (fun _ => True) v0_ r ∧ Below w.heap.size w w' := by
  have HR0 := Aside0.mk hr0
  have HC0 := Aside0.mk hc0
  clear hr0 hc0
  have HB := Aside0.mk (Below.refl w.heap.size w)
  have H : (towncrierref04_Over.l0 k l0 a1 ([] : List Int) 0) = some r := h
  clear h
  have H' := Aside0.mk H
  clear H
  go_enter Try.func67, Try.ntmps67
  go_wp2
  go_loopg [1, 5, 6] k (fun kq v1 v5 v6 w' => ∃ (x1_1 : Int) (x5_1 : List Int) (x6_1 : Int), v1 = .int .i64 x1_1 ∧ v6 = .int .i64 x6_1 ∧ Aside0 (towncrierref04_Over.l0 kq l0 x1_1 x5_1 x6_1 = some r) ∧ Aside0 (kq ≤ k) ∧ Aside0 (Kd.R (Kd.int .i64) 3 w' w.heap.size (fun _ => True) v5 x5_1) ∧ Aside0 (Below w.heap.size w w'))
  case atStart => exact ⟨(a1), (([] : List Int)), (0), (by first | rfl | (simp; done) | (simp [*]; done)), (by first | rfl | (simp; done) | (simp [*]; done)), H', ⟨Nat.le_refl _⟩, ⟨by first | exact Kd.R_nil _ _ _ _ _ | exact Kd.N_nil _ _ _ _ _ | exact Kd.V_nil _ _ _ _ _ | exact Kd.Q_nil _ _ _ _ _ | exact Kd.S_nil _ _ _ _ _⟩, ⟨by repeat (first | (with_reducible first | exact HB.out | apply below_alloc | apply pw_below_drewN | apply below_drew1) | exact HB.out)⟩⟩
  case round =>
    clear H'
    try clear p2
    obtain ⟨x1_1, x5_1, x6_1, rfl, rfl, HA, HK1, HO_5, HB⟩ := hrel
    cases gk with
    | zero => exact absurd HA.out (by simp [towncrierref04_Over.l0])
    | succ k1 =>
      have H := HA.out
      clear HA
      simp only [towncrierref04_Over.l0] at H
      have HC3 := Aside0.mk H
      clear H
      go_upto_region 3 with (fail)
      go_cut [16] (fun v16 wc => ∃ (kq : Nat) (x16_2 : Bool), v16 = .bool x16_2 ∧ Aside0 (towncrierref04_Over.j1 kq l0 x1_1 x5_1 x6_1 x16_2 = some r) ∧ Aside0 (kq ≤ k1) ∧ Aside0 (Kd.R (Kd.int .i64) 3 wc w.heap.size (fun _ => True) u5 x5_1) ∧ Aside0 (Below w.heap.size w wc))
      case first =>
        have H := HC3.out
        clear HC3
        by_cases c4 : x6_1 ≤ (l0.length : Int)
        · rw [if_pos c4] at H
          have c4b0 : decide (x6_1 ≤ (l0.length : Int)) = true := decide_eq_true c4
          clear c4
          (first | rw [c4b0] | (simp only [i64_w, i32_w]; rw [c4b0]) | skip)
          replace H := Option.bind_eq_some_iff.mp H
          obtain ⟨t191, A50, H⟩ := H
          replace H : (towncrierref04_Over.j1 k1 l0 x1_1 x5_1 x6_1 t191) = some r := H
          have A5 := Aside0.mk A50
          clear A50
          have H' := Aside0.mk H
          clear H
          go_wp2_with (first | (go_at_call 49; (with_reducible refine (towncrierref04_There.calls _ _ l0 x1_1 t191 _ ?side1 ?side2 A5.out).mono ?_); (case side1 => repeat (first | exact (Kd.C_below HR0.out HB.out) | (with_reducible refine Kd.C_alloc ?_ _) | (with_reducible refine Kd.C_drewN ?_ _) | (with_reducible refine Kd.C_drew ?_))); (case side2 => exact HC0.out); rintro e w' ⟨rfl, ⟨nd, rfl⟩⟩))
          go_meet
          case rel => exact ⟨_, (t191), (by first | rfl | (simp; done) | (simp [*]; done)), H', ⟨by have := HK1.out; first | omega | exact Nat.le_refl _⟩, ⟨by (with_reducible repeat (first | apply Kd.R_alloc | apply Kd.R_drewN | apply Kd.R_drew)); exact HO_5.out⟩, ⟨by repeat (first | (with_reducible first | exact HB.out | apply below_alloc | apply pw_below_drewN | apply below_drew1) | exact HB.out)⟩⟩
        · rw [if_neg c4] at H
          have c4b0 : decide (x6_1 ≤ (l0.length : Int)) = false := decide_eq_false c4
          clear c4
          (first | rw [c4b0] | (simp only [i64_w, i32_w]; rw [c4b0]) | skip)
          have H' := Aside0.mk H
          clear H
          go_wp2
          go_meet
          case rel => exact ⟨_, (false), (by first | rfl | (simp; done) | (simp [*]; done)), H', ⟨by have := HK1.out; first | omega | exact Nat.le_refl _⟩, ⟨by (with_reducible repeat (first | apply Kd.R_alloc | apply Kd.R_drewN | apply Kd.R_drew)); exact HO_5.out⟩, ⟨by repeat (first | (with_reducible first | exact HB.out | apply below_alloc | apply pw_below_drewN | apply below_drew1) | exact HB.out)⟩⟩
      case rest =>
        clear HC3
        try clear p2
        try clear c4
        try clear c4b0
        try clear p2
        obtain ⟨kq, x16_2, rfl, HA, HJ2, HO_5, HB⟩ := hcut
        cases kq with
        | zero => exact absurd HA.out (by simp [towncrierref04_Over.j1])
        | succ kj2 =>
          have H := HA.out
          clear HA
          simp only [towncrierref04_Over.j1] at H
          by_cases c6 : x16_2 = true
          · subst c6
            have H1 : (if x5_1.length < 17592186044416 then ((some (x5_1 ++ [x1_1] : List Int)).bind fun y192 => (if 0 ≤ (wrap64 (x1_1 - 1)) then (if (wrap64 (x1_1 - 1)) < (l0.length : Int) then (if ((rd_T61 l0 (wrap64 (x1_1 - 1))).f1) = 0 then (towncrierref04_Over.l0 kj2 l0 ((rd_T61 l0 (wrap64 (x1_1 - 1))).f2) y192 (wrap64 (x6_1 + 1))) else (towncrierref04_Over.l0 kj2 l0 ((rd_T61 l0 (wrap64 (x1_1 - 1))).f1) y192 (wrap64 (x6_1 + 1)))) else (none)) else (none))) else (none)) = some r := by rw [if_pos rfl] at H; exact H
            clear H
            have H := H1
            clear H1
            by_cases c7 : x5_1.length < 17592186044416
            · rw [if_pos c7] at H
              have LMc7 := Aside0.mk c7
              clear c7
              obtain ⟨y192, hy192⟩ : ∃ y_ : List Int, y_ = (x5_1 ++ [x1_1]) := ⟨_, rfl⟩
              replace H : (if 0 ≤ (wrap64 (x1_1 - 1)) then (if (wrap64 (x1_1 - 1)) < (l0.length : Int) then (if ((rd_T61 l0 (wrap64 (x1_1 - 1))).f1) = 0 then (towncrierref04_Over.l0 kj2 l0 ((rd_T61 l0 (wrap64 (x1_1 - 1))).f2) y192 (wrap64 (x6_1 + 1))) else (towncrierref04_Over.l0 kj2 l0 ((rd_T61 l0 (wrap64 (x1_1 - 1))).f1) y192 (wrap64 (x6_1 + 1)))) else (none)) else (none)) = some r := by first | (rw [hy192]; with_reducible exact H) | (have H2_ := (Option.bind_some _ _).symm.trans H; rw [hy192]; with_reducible exact H2_) | (have H2_ := (Option.bind_some _ _).symm.trans H; with_reducible exact H2_) | with_reducible exact H | (rw [hy192]; exact H) | exact H
              have Ny192 := Aside0.mk hy192
              clear hy192
              obtain ⟨ji8, hji8⟩ : ∃ j_ : Int, (wrap64 (x1_1 - 1)) = j_ := ⟨_, rfl⟩
              replace H : (if 0 ≤ (ji8) then (if (ji8) < (l0.length : Int) then (if ((rd_T61 l0 (ji8)).f1) = 0 then (towncrierref04_Over.l0 kj2 l0 ((rd_T61 l0 (ji8)).f2) y192 (wrap64 (x6_1 + 1))) else (towncrierref04_Over.l0 kj2 l0 ((rd_T61 l0 (ji8)).f1) y192 (wrap64 (x6_1 + 1)))) else (none)) else (none)) = some r := by first | (rw [hji8] at H; exact H) | (simp only [hji8] at H ⊢; exact H)
              have hji8w : (IntKind.i64.wrap (x1_1 - 1)) = ji8 := (i64_w _).trans hji8
              by_cases c9 : 0 ≤ (ji8)
              · rw [if_pos c9] at H
                have c9b0 : decide (0 ≤ (ji8)) = true := decide_eq_true c9
                clear c9
                by_cases c10 : (ji8) < (l0.length : Int)
                · rw [if_pos c10] at H
                  have c10b0 : decide ((ji8) < (l0.length : Int)) = true := decide_eq_true c10
                  clear c10
                  by_cases c11 : ((rd_T61 l0 (ji8)).f1) = 0
                  · rw [if_pos c11] at H
                    have c11b0 : (((rd_T61 l0 (ji8)).f1) == 0) = true := beq_iff_eq.mpr c11
                    have c11b1 : (((rd_T61 l0 (ji8)).f1) != 0) = false := bne_eq_false_iff_eq.mpr c11
                    clear c11
                    have H' := Aside0.mk H
                    clear H
                    go_wp2_with (first | ((with_reducible refine gate_builtin (b := .append) (xs := #[.tmp 19, .tmp 21]) rfl ?_); at_builtin; refine Kd.R_append (Kd.int .i64) (w0 := w) w.heap.size rfl (.tmp 19) (.tmp 21) 29 3 (.int .i64 0) 8 rfl Try.underlying29 info3 rfl (by decide) (by omega) u5 x5_1 x1_1 [.int .i64 x1_1] (fun _ => True) (fun _ => False) rfl rfl ?aP (fun _ hk => hk.elim) ?aF ?aO ?aB ?aS ?aL ?_; (case aP => exact rfl); (case aB => exact (by repeat (first | (with_reducible first | exact HB.out | apply below_alloc | apply pw_below_drewN | apply below_drew1) | exact HB.out))); (case aF => exact (fun _ _ => trivial)); (case aO => exact (by (with_reducible repeat (first | apply Kd.R_alloc | apply Kd.R_drewN | apply Kd.R_drew)); exact HO_5.out)); (case aS => exact (below_size (by repeat (first | (with_reducible first | exact HB.out | apply below_alloc | apply pw_below_drewN | apply below_drew1) | exact HB.out)))); (case aL => have := LMc7.out; omega); intro v193 w12 ho hb hg hat; rw [← Ny192.out] at ho; have n0_ := Aside0.mk (hb); have n1_ := Aside0.mk (ho); clear HB; clear HO_5; have HB := n0_; have HO194 := n1_; clear n0_ n1_; clear ho hb hg hat; have p195 : 0 ≤ ((ji8) : Int) := of_decide_eq_true (by first | (with_reducible assumption) | assumption); have q195 : (ji8) < (l0.length : Int) := of_decide_eq_true (by first | (with_reducible assumption) | assumption); obtain ⟨ad195, A195_8, c195_8, e195, hx195_0, hx195_1, hx195_2, hx195_3, hx195_4, hx195_5, hx195_6, hx195_7, hx195_8, hl195_8, hi195_8⟩ := at_T61 HR0.out (ji8) p195 q195; cases e195; replace hx195_0 := (HB.out.cell (World.block_lt_of_cell? w _ hx195_0)).trans hx195_0; replace hx195_1 := (HB.out.cell (World.block_lt_of_cell? w _ hx195_1)).trans hx195_1; replace hx195_2 := (HB.out.cell (World.block_lt_of_cell? w _ hx195_2)).trans hx195_2; replace hx195_3 := (HB.out.cell (World.block_lt_of_cell? w _ hx195_3)).trans hx195_3; replace hx195_4 := (HB.out.cell (World.block_lt_of_cell? w _ hx195_4)).trans hx195_4; replace hx195_5 := (HB.out.cell (World.block_lt_of_cell? w _ hx195_5)).trans hx195_5; replace hx195_6 := (HB.out.cell (World.block_lt_of_cell? w _ hx195_6)).trans hx195_6; replace hx195_7 := (HB.out.cell (World.block_lt_of_cell? w _ hx195_7)).trans hx195_7; replace hx195_8 := (HB.out.cell (World.block_lt_of_cell? w _ hx195_8)).trans hx195_8; have HR195_8 := Aside0.mk hi195_8; have HC195_8 := Aside0.mk hl195_8; clear hi195_8 hl195_8; replace p195 := eq_true p195; replace q195 := eq_true q195; have p196 : 0 ≤ ((ji8) : Int) := of_decide_eq_true (by first | (with_reducible assumption) | assumption); have q196 : (ji8) < (l0.length : Int) := of_decide_eq_true (by first | (with_reducible assumption) | assumption); obtain ⟨ad196, A196_8, c196_8, e196, hx196_0, hx196_1, hx196_2, hx196_3, hx196_4, hx196_5, hx196_6, hx196_7, hx196_8, hl196_8, hi196_8⟩ := at_T61 HR0.out (ji8) p196 q196; obtain rfl : ad195 = ad196 := (by injection e196); replace hx196_0 := (HB.out.cell (World.block_lt_of_cell? w _ hx196_0)).trans hx196_0; replace hx196_1 := (HB.out.cell (World.block_lt_of_cell? w _ hx196_1)).trans hx196_1; replace hx196_2 := (HB.out.cell (World.block_lt_of_cell? w _ hx196_2)).trans hx196_2; replace hx196_3 := (HB.out.cell (World.block_lt_of_cell? w _ hx196_3)).trans hx196_3; replace hx196_4 := (HB.out.cell (World.block_lt_of_cell? w _ hx196_4)).trans hx196_4; replace hx196_5 := (HB.out.cell (World.block_lt_of_cell? w _ hx196_5)).trans hx196_5; replace hx196_6 := (HB.out.cell (World.block_lt_of_cell? w _ hx196_6)).trans hx196_6; replace hx196_7 := (HB.out.cell (World.block_lt_of_cell? w _ hx196_7)).trans hx196_7; replace hx196_8 := (HB.out.cell (World.block_lt_of_cell? w _ hx196_8)).trans hx196_8; have HR196_8 := Aside0.mk hi196_8; have HC196_8 := Aside0.mk hl196_8; clear hi196_8 hl196_8; replace p196 := eq_true p196; replace q196 := eq_true q196; have ea_ := Option.some.inj (hx195_8.symm.trans hx196_8); injection ea_ with ea_ en_ ec_; subst ea_; subst ec_; clear en_))
                    go_roundg kj2
                    case measure => have := HK1.out; have := HJ2.out; omega
                    case rel => exact ⟨((rd_T61 l0 (ji8)).f2), (y192), (wrap64 (x6_1 + 1)), (by first | rfl | (simp; done) | (simp only [← hji8] <;> (first | rfl | simp)) | (simp [*]; done)), (by first | rfl | (simp; done) | (simp [*]; done)), H', ⟨by have := HK1.out; have := HJ2.out; omega⟩, ⟨by (with_reducible repeat (first | apply Kd.R_alloc | apply Kd.R_drewN | apply Kd.R_drew)); exact HO194.out⟩, ⟨by repeat (first | (with_reducible first | exact HB.out | apply below_alloc | apply pw_below_drewN | apply below_drew1) | exact HB.out)⟩⟩
                  · rw [if_neg c11] at H
                    have c11b0 : (((rd_T61 l0 (ji8)).f1) == 0) = false := beq_eq_false_iff_ne.mpr c11
                    have c11b1 : (((rd_T61 l0 (ji8)).f1) != 0) = true := bne_iff_ne.mpr c11
                    have H' := Aside0.mk H
                    clear H
                    go_wp2_with (first | ((with_reducible refine gate_builtin (b := .append) (xs := #[.tmp 19, .tmp 21]) rfl ?_); at_builtin; refine Kd.R_append (Kd.int .i64) (w0 := w) w.heap.size rfl (.tmp 19) (.tmp 21) 29 3 (.int .i64 0) 8 rfl Try.underlying29 info3 rfl (by decide) (by omega) u5 x5_1 x1_1 [.int .i64 x1_1] (fun _ => True) (fun _ => False) rfl rfl ?aP (fun _ hk => hk.elim) ?aF ?aO ?aB ?aS ?aL ?_; (case aP => exact rfl); (case aB => exact (by repeat (first | (with_reducible first | exact HB.out | apply below_alloc | apply pw_below_drewN | apply below_drew1) | exact HB.out))); (case aF => exact (fun _ _ => trivial)); (case aO => exact (by (with_reducible repeat (first | apply Kd.R_alloc | apply Kd.R_drewN | apply Kd.R_drew)); exact HO_5.out)); (case aS => exact (below_size (by repeat (first | (with_reducible first | exact HB.out | apply below_alloc | apply pw_below_drewN | apply below_drew1) | exact HB.out)))); (case aL => have := LMc7.out; omega); intro v193 w13 ho hb hg hat; rw [← Ny192.out] at ho; have n0_ := Aside0.mk (hb); have n1_ := Aside0.mk (ho); clear HB; clear HO_5; have HB := n0_; have HO194 := n1_; clear n0_ n1_; clear ho hb hg hat; have p195 : 0 ≤ ((ji8) : Int) := of_decide_eq_true (by first | (with_reducible assumption) | assumption); have q195 : (ji8) < (l0.length : Int) := of_decide_eq_true (by first | (with_reducible assumption) | assumption); obtain ⟨ad195, A195_8, c195_8, e195, hx195_0, hx195_1, hx195_2, hx195_3, hx195_4, hx195_5, hx195_6, hx195_7, hx195_8, hl195_8, hi195_8⟩ := at_T61 HR0.out (ji8) p195 q195; cases e195; replace hx195_0 := (HB.out.cell (World.block_lt_of_cell? w _ hx195_0)).trans hx195_0; replace hx195_1 := (HB.out.cell (World.block_lt_of_cell? w _ hx195_1)).trans hx195_1; replace hx195_2 := (HB.out.cell (World.block_lt_of_cell? w _ hx195_2)).trans hx195_2; replace hx195_3 := (HB.out.cell (World.block_lt_of_cell? w _ hx195_3)).trans hx195_3; replace hx195_4 := (HB.out.cell (World.block_lt_of_cell? w _ hx195_4)).trans hx195_4; replace hx195_5 := (HB.out.cell (World.block_lt_of_cell? w _ hx195_5)).trans hx195_5; replace hx195_6 := (HB.out.cell (World.block_lt_of_cell? w _ hx195_6)).trans hx195_6; replace hx195_7 := (HB.out.cell (World.block_lt_of_cell? w _ hx195_7)).trans hx195_7; replace hx195_8 := (HB.out.cell (World.block_lt_of_cell? w _ hx195_8)).trans hx195_8; have HR195_8 := Aside0.mk hi195_8; have HC195_8 := Aside0.mk hl195_8; clear hi195_8 hl195_8; replace p195 := eq_true p195; replace q195 := eq_true q195))
                    go_roundg kj2
                    case measure => have := HK1.out; have := HJ2.out; omega
                    case rel => exact ⟨((rd_T61 l0 (ji8)).f1), (y192), (wrap64 (x6_1 + 1)), (by first | rfl | (simp; done) | (simp only [← hji8] <;> (first | rfl | simp)) | (simp [*]; done)), (by first | rfl | (simp; done) | (simp [*]; done)), H', ⟨by have := HK1.out; have := HJ2.out; omega⟩, ⟨by (with_reducible repeat (first | apply Kd.R_alloc | apply Kd.R_drewN | apply Kd.R_drew)); exact HO194.out⟩, ⟨by repeat (first | (with_reducible first | exact HB.out | apply below_alloc | apply pw_below_drewN | apply below_drew1) | exact HB.out)⟩⟩
                · rw [if_neg c10] at H
                  exact absurd H (by simp)
              · rw [if_neg c9] at H
                exact absurd H (by simp)
            · rw [if_neg c7] at H
              exact absurd H (by simp)
          · replace c6 := Bool.eq_false_iff.mpr c6
            subst c6
            have H1 : (some x5_1) = some r := by rw [if_neg (show ¬ (false = true) by decide)] at H; exact H
            clear H
            have H := H1
            clear H1
            obtain rfl := Option.some.inj H
            go_wp2
            go_ret
            exact ⟨_, by first | rfl | (simp [errW_none, errW_some] <;> rfl) | (simp [*, errW_none, errW_some] <;> rfl), by (with_reducible repeat (first | apply Kd.R_alloc | apply Kd.R_drewN | apply Kd.R_drew)); exact HO_5.out, by repeat (first | (with_reducible first | exact HB.out | apply below_alloc | apply pw_below_drewN | apply below_drew1) | exact HB.out)⟩

/-! ### towncrierref04_Tie: function 55 -/
mutual
def towncrierref04_Tie.j0 : Nat → List (S61) → Int → Int → Bool → Option ((List (S61)) × Int)
  | 0, _, _, _, _ => none
  | k + 1, x0, x1, x2, x18 => if x18 = true then (some (x0, 1)) else (if 0 ≤ (wrap64 (x1 - 1)) then (if (wrap64 (x1 - 1)) < (x0.length : Int) then (if ((rd_T61 x0 (wrap64 (x1 - 1))).f0) = 2 then (if 0 ≤ (wrap64 (x2 - 1)) then (if (wrap64 (x2 - 1)) < (x0.length : Int) then (towncrierref04_Tie.j1 k x0 x1 x2 (((rd_T61 x0 (wrap64 (x2 - 1))).f0) != 3)) else (none)) else (none)) else (towncrierref04_Tie.j1 k x0 x1 x2 true)) else (none)) else (none))
def towncrierref04_Tie.j1 : Nat → List (S61) → Int → Int → Bool → Option ((List (S61)) × Int)
  | 0, _, _, _, _ => none
  | k + 1, x0, x1, x2, x35 => if x35 = true then (some (x0, 2)) else (if 0 ≤ (wrap64 (x1 - 1)) then (if (wrap64 (x1 - 1)) < (x0.length : Int) then (if ((rd_T61 x0 (wrap64 (x1 - 1))).f3) = 0 then (if 0 ≤ (wrap64 (x2 - 1)) then (if (wrap64 (x2 - 1)) < (x0.length : Int) then (towncrierref04_Tie.j2 k x0 x1 x2 (((rd_T61 x0 (wrap64 (x2 - 1))).f2) != 0)) else (none)) else (none)) else (towncrierref04_Tie.j2 k x0 x1 x2 true)) else (none)) else (none))
def towncrierref04_Tie.j2 : Nat → List (S61) → Int → Int → Bool → Option ((List (S61)) × Int)
  | 0, _, _, _, _ => none
  | k + 1, x0, x1, x2, x52 => if x52 = true then (some (x0, 6)) else ((towncrierref04_Over.f k x0 x1).bind fun t232 => ((towncrierref01_Has.f k t232 x2).bind fun t235 => (if t235 = true then (some (x0, 3)) else ((towncrierref04_Copy.f k x0).bind fun t236 => (if 0 ≤ (wrap64 (x1 - 1)) then (if (wrap64 (x1 - 1)) < (t236.length : Int) then ((some (t236.set ((wrap64 (x1 - 1)) : Int).toNat (⟨(rd_T61 t236 (wrap64 (x1 - 1))).f0, (rd_T61 t236 (wrap64 (x1 - 1))).f1, (rd_T61 t236 (wrap64 (x1 - 1))).f2, x2, (rd_T61 t236 (wrap64 (x1 - 1))).f4, (rd_T61 t236 (wrap64 (x1 - 1))).f5, (rd_T61 t236 (wrap64 (x1 - 1))).f6, (rd_T61 t236 (wrap64 (x1 - 1))).f7, (rd_T61 t236 (wrap64 (x1 - 1))).f8⟩ : S61) : List (S61))).bind fun y239 => (if 0 ≤ (wrap64 (x2 - 1)) then (if (wrap64 (x2 - 1)) < (t236.length : Int) then (some ((y239.set ((wrap64 (x2 - 1)) : Int).toNat (⟨(rd_T61 y239 (wrap64 (x2 - 1))).f0, (rd_T61 y239 (wrap64 (x2 - 1))).f1, x1, (rd_T61 y239 (wrap64 (x2 - 1))).f3, (rd_T61 y239 (wrap64 (x2 - 1))).f4, (rd_T61 y239 (wrap64 (x2 - 1))).f5, (rd_T61 y239 (wrap64 (x2 - 1))).f6, (rd_T61 y239 (wrap64 (x2 - 1))).f7, (rd_T61 y239 (wrap64 (x2 - 1))).f8⟩ : S61)), 0)) else (none)) else (none))) else (none)) else (none))))))
end
def towncrierref04_Tie.f (k : Nat) (l0 : List (S61)) (a1 : Int) (a2 : Int) : Option ((List (S61)) × Int) := (towncrierref04_There.f l0 a1).bind fun t226 => (if t226 = true then ((towncrierref04_There.f l0 a2).bind fun t227 => (towncrierref04_Tie.j0 k l0 a1 a2 (!t227))) else (towncrierref04_Tie.j0 k l0 a1 a2 true))
theorem towncrierref04_Tie.mono_l : ∀ k, (∀ y0 y1 y2 y3, LeO (towncrierref04_Tie.j0 k y0 y1 y2 y3) (towncrierref04_Tie.j0 (k + 1) y0 y1 y2 y3)) ∧ (∀ y0 y1 y2 y3, LeO (towncrierref04_Tie.j1 k y0 y1 y2 y3) (towncrierref04_Tie.j1 (k + 1) y0 y1 y2 y3)) ∧ (∀ y0 y1 y2 y3, LeO (towncrierref04_Tie.j2 k y0 y1 y2 y3) (towncrierref04_Tie.j2 (k + 1) y0 y1 y2 y3))
  | 0 => ⟨fun _ _ _ _ r h => by simp [towncrierref04_Tie.j0] at h, fun _ _ _ _ r h => by simp [towncrierref04_Tie.j1] at h, fun _ _ _ _ r h => by simp [towncrierref04_Tie.j2] at h⟩
  | k + 1 => by
    obtain ⟨ih0, ih1, ih2⟩ := towncrierref04_Tie.mono_l k
    refine ⟨?_, ?_, ?_⟩
    · intro y0 y1 y2 y3
      unfold towncrierref04_Tie.j0
      repeat' first
      | (with_reducible exact ih0 _ _ _ _)
      | (with_reducible exact ih1 _ _ _ _)
      | (with_reducible exact ih2 _ _ _ _)
      | (with_reducible exact towncrierref01_Has.mono _ _ _)
      | (with_reducible exact towncrierref04_Copy.mono _ _)
      | (with_reducible exact towncrierref04_Over.mono _ _ _)
      | (with_reducible exact LeO.refl _)
      | (with_reducible exact LeO.none _)
      | (with_reducible refine LeO.ite ?_ ?_)
      | (with_reducible refine LeO.bind ?_ (fun _ => ?_))
      | exact ih0 _ _ _ _
      | exact ih1 _ _ _ _
      | exact ih2 _ _ _ _
      | exact towncrierref01_Has.mono _ _ _
      | exact towncrierref04_Copy.mono _ _
      | exact towncrierref04_Over.mono _ _ _
      | exact LeO.none _
      | refine LeO.ite ?_ ?_
      | refine LeO.bind ?_ (fun _ => ?_)
    · intro y0 y1 y2 y3
      unfold towncrierref04_Tie.j1
      repeat' first
      | (with_reducible exact ih0 _ _ _ _)
      | (with_reducible exact ih1 _ _ _ _)
      | (with_reducible exact ih2 _ _ _ _)
      | (with_reducible exact towncrierref01_Has.mono _ _ _)
      | (with_reducible exact towncrierref04_Copy.mono _ _)
      | (with_reducible exact towncrierref04_Over.mono _ _ _)
      | (with_reducible exact LeO.refl _)
      | (with_reducible exact LeO.none _)
      | (with_reducible refine LeO.ite ?_ ?_)
      | (with_reducible refine LeO.bind ?_ (fun _ => ?_))
      | exact ih0 _ _ _ _
      | exact ih1 _ _ _ _
      | exact ih2 _ _ _ _
      | exact towncrierref01_Has.mono _ _ _
      | exact towncrierref04_Copy.mono _ _
      | exact towncrierref04_Over.mono _ _ _
      | exact LeO.none _
      | refine LeO.ite ?_ ?_
      | refine LeO.bind ?_ (fun _ => ?_)
    · intro y0 y1 y2 y3
      unfold towncrierref04_Tie.j2
      repeat' first
      | (with_reducible exact ih0 _ _ _ _)
      | (with_reducible exact ih1 _ _ _ _)
      | (with_reducible exact ih2 _ _ _ _)
      | (with_reducible exact towncrierref01_Has.mono _ _ _)
      | (with_reducible exact towncrierref04_Copy.mono _ _)
      | (with_reducible exact towncrierref04_Over.mono _ _ _)
      | (with_reducible exact LeO.refl _)
      | (with_reducible exact LeO.none _)
      | (with_reducible refine LeO.ite ?_ ?_)
      | (with_reducible refine LeO.bind ?_ (fun _ => ?_))
      | exact ih0 _ _ _ _
      | exact ih1 _ _ _ _
      | exact ih2 _ _ _ _
      | exact towncrierref01_Has.mono _ _ _
      | exact towncrierref04_Copy.mono _ _
      | exact towncrierref04_Over.mono _ _ _
      | exact LeO.none _
      | refine LeO.ite ?_ ?_
      | refine LeO.bind ?_ (fun _ => ?_)
theorem towncrierref04_Tie.mono : ∀ a0 a1 a2 k, LeO (towncrierref04_Tie.f k a0 a1 a2) (towncrierref04_Tie.f (k + 1) a0 a1 a2) := by
  intro a0 a1 a2 k
  obtain ⟨ih0, ih1, ih2⟩ := towncrierref04_Tie.mono_l k
  unfold towncrierref04_Tie.f
  repeat' first
      | (with_reducible exact ih0 _ _ _ _)
      | (with_reducible exact ih1 _ _ _ _)
      | (with_reducible exact ih2 _ _ _ _)
      | (with_reducible exact towncrierref01_Has.mono _ _ _)
      | (with_reducible exact towncrierref04_Copy.mono _ _)
      | (with_reducible exact towncrierref04_Over.mono _ _ _)
      | (with_reducible exact LeO.refl _)
      | (with_reducible exact LeO.none _)
      | (with_reducible refine LeO.ite ?_ ?_)
      | (with_reducible refine LeO.bind ?_ (fun _ => ?_))
      | exact ih0 _ _ _ _
      | exact ih1 _ _ _ _
      | exact ih2 _ _ _ _
      | exact towncrierref01_Has.mono _ _ _
      | exact towncrierref04_Copy.mono _ _
      | exact towncrierref04_Over.mono _ _ _
      | exact LeO.none _
      | refine LeO.ite ?_ ?_
      | refine LeO.bind ?_ (fun _ => ?_)
set_option maxHeartbeats 8000000 in
set_option maxRecDepth 100000 in
theorem towncrierref04_Tie.calls (k : Nat) (P0_ : Nat → Prop) (A0 : Option Addr) (c0 : Nat) (l0 : List (S61)) (a1 : Int) (a2 : Int) (r1 : List (S61)) (r2 : Int) (w : World) (hs0 : Kd.V k61 61 w w.heap.size (fun k_ => P0_ k_) (.slice A0 l0.length c0) l0) (h : towncrierref04_Tie.f k l0 a1 a2 = some (r1, r2)) :
    Calls Try.prog 55 #[.slice A0 l0.length c0, .int .i64 a1, .int .i64 a2] w fun e w' => ∃ v0_ : Value, e = .returned (.tuple #[v0_, .int .i64 r2]) ∧ Kd.V k61 61 w' w.heap.size (fun k_ => (P0_ k_ ∨ w.heap.size ≤ k_)) v0_ r1 ∧ Below w.heap.size w w' := by
  have HO0 := Aside0.mk (show Kd.V k61 61 w w.heap.size (fun k_ => (P0_ k_ ∨ w.heap.size ≤ k_)) (.slice A0 l0.length c0) l0 from Kd.V_mono hs0 (fun k_ hk => .inl hk))
  have HB := Aside0.mk (Below.refl w.heap.size w)
  have H : ((towncrierref04_There.f l0 a1).bind fun t226 => (if t226 = true then ((towncrierref04_There.f l0 a2).bind fun t227 => (towncrierref04_Tie.j0 k l0 a1 a2 (!t227))) else (towncrierref04_Tie.j0 k l0 a1 a2 true))) = some (r1, r2) := h
  clear h
  have HC4 := Aside0.mk H
  clear H
  go_enter Try.func55, Try.ntmps55
  go_upto_region 1 with (fail)
  go_cut [18] (fun v18 wc => ∃ (kq : Nat) (x18_3 : Bool), v18 = .bool x18_3 ∧ Aside0 (towncrierref04_Tie.j0 kq l0 a1 a2 x18_3 = some (r1, r2)) ∧ Aside0 (kq ≤ k) ∧ Aside0 (Kd.V k61 61 wc w.heap.size (fun k_ => (P0_ k_ ∨ w.heap.size ≤ k_)) (.slice A0 l0.length c0) l0) ∧ Aside0 (Below w.heap.size w wc))
  case first =>
    have H := HC4.out
    clear HC4
    replace H := Option.bind_eq_some_iff.mp H
    obtain ⟨t226, A50, H⟩ := H
    replace H : (if t226 = true then ((towncrierref04_There.f l0 a2).bind fun t227 => (towncrierref04_Tie.j0 k l0 a1 a2 (!t227))) else (towncrierref04_Tie.j0 k l0 a1 a2 true)) = some (r1, r2) := H
    have A5 := Aside0.mk A50
    clear A50
    by_cases c6 : t226 = true
    · subst c6
      have H1 : ((towncrierref04_There.f l0 a2).bind fun t227 => (towncrierref04_Tie.j0 k l0 a1 a2 (!t227))) = some (r1, r2) := by rw [if_pos rfl] at H; exact H
      clear H
      have H := H1
      clear H1
      replace H := Option.bind_eq_some_iff.mp H
      obtain ⟨t227, A70, H⟩ := H
      replace H : (towncrierref04_Tie.j0 k l0 a1 a2 (!t227)) = some (r1, r2) := H
      have A7 := Aside0.mk A70
      clear A70
      have H' := Aside0.mk H
      clear H
      go_wp2_with (first | ((with_reducible refine gate_callee (f := 49) rfl ?_); refine goesL_ (some 11) rfl rfl Try.func49 (by kernel_rfl) rfl #[.slice A0 l0.length c0, .int .i64 a1] rfl (by (try simp only [List.map_toArray, List.map_cons, List.map_nil]); first | done | rfl | (simp only [List.length_drop, List.length_take]; rfl)) ?_; (with_reducible refine (towncrierref04_There.calls _ _ l0 a1 true _ ?side1 ?side2 A5.out).mono ?_); (case side1 => repeat (first | exact (Kd.V_reads' HO0.out).2.2 | (with_reducible refine Kd.C_alloc ?_ _) | (with_reducible refine Kd.C_drewN ?_ _) | (with_reducible refine Kd.C_drew ?_))); (case side2 => exact (Kd.V_reads' HO0.out).2.1); rintro e w' ⟨rfl, ⟨nd, rfl⟩⟩; refine ⟨_, rfl, ?_⟩) | (go_at_call 49; (with_reducible refine (towncrierref04_There.calls _ _ l0 a2 t227 _ ?side1 ?side2 A7.out).mono ?_); (case side1 => repeat (first | exact (Kd.V_reads' HO0.out).2.2 | (with_reducible refine Kd.C_alloc ?_ _) | (with_reducible refine Kd.C_drewN ?_ _) | (with_reducible refine Kd.C_drew ?_))); (case side2 => exact (Kd.V_reads' HO0.out).2.1); rintro e w' ⟨rfl, ⟨nd, rfl⟩⟩))
      go_meet
      case rel => exact ⟨_, (!t227), (by first | rfl | (simp; done) | (simp [*]; done)), H', ⟨by first | omega | exact Nat.le_refl _⟩, ⟨by (with_reducible repeat (first | apply Kd.V_alloc | apply Kd.V_drewN | apply Kd.V_drew)); exact HO0.out⟩, ⟨by repeat (first | (with_reducible first | exact HB.out | apply below_alloc | apply pw_below_drewN | apply below_drew1) | exact HB.out)⟩⟩
    · replace c6 := Bool.eq_false_iff.mpr c6
      subst c6
      have H1 : (towncrierref04_Tie.j0 k l0 a1 a2 true) = some (r1, r2) := by rw [if_neg (show ¬ (false = true) by decide)] at H; exact H
      clear H
      have H := H1
      clear H1
      have H' := Aside0.mk H
      clear H
      go_wp2_with (first | ((with_reducible refine gate_callee (f := 49) rfl ?_); refine goesL_ (some 11) rfl rfl Try.func49 (by kernel_rfl) rfl #[.slice A0 l0.length c0, .int .i64 a1] rfl (by (try simp only [List.map_toArray, List.map_cons, List.map_nil]); first | done | rfl | (simp only [List.length_drop, List.length_take]; rfl)) ?_; (with_reducible refine (towncrierref04_There.calls _ _ l0 a1 false _ ?side1 ?side2 A5.out).mono ?_); (case side1 => repeat (first | exact (Kd.V_reads' HO0.out).2.2 | (with_reducible refine Kd.C_alloc ?_ _) | (with_reducible refine Kd.C_drewN ?_ _) | (with_reducible refine Kd.C_drew ?_))); (case side2 => exact (Kd.V_reads' HO0.out).2.1); rintro e w' ⟨rfl, ⟨nd, rfl⟩⟩; refine ⟨_, rfl, ?_⟩))
      go_meet
      case rel => exact ⟨_, (true), (by first | rfl | (simp; done) | (simp [*]; done)), H', ⟨by first | omega | exact Nat.le_refl _⟩, ⟨by (with_reducible repeat (first | apply Kd.V_alloc | apply Kd.V_drewN | apply Kd.V_drew)); exact HO0.out⟩, ⟨by repeat (first | (with_reducible first | exact HB.out | apply below_alloc | apply pw_below_drewN | apply below_drew1) | exact HB.out)⟩⟩
  case rest =>
    clear HC4
    try clear p2
    try clear c4
    try clear c5
    try clear c6
    obtain ⟨kq, x18_3, rfl, HA, HJ3, HO_0, HB⟩ := hcut
    cases kq with
    | zero => exact absurd HA.out (by simp [towncrierref04_Tie.j0])
    | succ kj3 =>
      have H := HA.out
      clear HA
      simp only [towncrierref04_Tie.j0] at H
      by_cases c8 : x18_3 = true
      · subst c8
        have H1 : (some (l0, 1)) = some (r1, r2) := by rw [if_pos rfl] at H; exact H
        clear H
        have H := H1
        clear H1
        simp only [Option.some.injEq, Prod.mk.injEq] at H
        obtain ⟨rfl, rfl⟩ := H
        go_wp2
        go_ret2
        exact ⟨_, by first | rfl | (simp [errW_none, errW_some] <;> rfl) | (simp [*, errW_none, errW_some] <;> rfl), by (with_reducible repeat (first | apply Kd.V_alloc | apply Kd.V_drewN | apply Kd.V_drew)); exact HO_0.out, by repeat (first | (with_reducible first | exact HB.out | apply below_alloc | apply pw_below_drewN | apply below_drew1) | exact HB.out)⟩
      · replace c8 := Bool.eq_false_iff.mpr c8
        subst c8
        have H1 : (if 0 ≤ (wrap64 (a1 - 1)) then (if (wrap64 (a1 - 1)) < (l0.length : Int) then (if ((rd_T61 l0 (wrap64 (a1 - 1))).f0) = 2 then (if 0 ≤ (wrap64 (a2 - 1)) then (if (wrap64 (a2 - 1)) < (l0.length : Int) then (towncrierref04_Tie.j1 kj3 l0 a1 a2 (((rd_T61 l0 (wrap64 (a2 - 1))).f0) != 3)) else (none)) else (none)) else (towncrierref04_Tie.j1 kj3 l0 a1 a2 true)) else (none)) else (none)) = some (r1, r2) := by rw [if_neg (show ¬ (false = true) by decide)] at H; exact H
        clear H
        have H := H1
        clear H1
        have HC9 := Aside0.mk H
        clear H
        go_upto_region 3 with (fail)
        go_cut [35] (fun v35 wc => ∃ (kq : Nat) (x35_8 : Bool), v35 = .bool x35_8 ∧ Aside0 (towncrierref04_Tie.j1 kq l0 a1 a2 x35_8 = some (r1, r2)) ∧ Aside0 (kq ≤ kj3) ∧ Aside0 (Kd.V k61 61 wc w.heap.size (fun k_ => (P0_ k_ ∨ w.heap.size ≤ k_)) (.slice A0 l0.length c0) l0) ∧ Aside0 (Below w.heap.size w wc))
        case first =>
          have H := HC9.out
          clear HC9
          obtain ⟨ji10, hji10⟩ : ∃ j_ : Int, (wrap64 (a1 - 1)) = j_ := ⟨_, rfl⟩
          replace H : (if 0 ≤ (ji10) then (if (ji10) < (l0.length : Int) then (if ((rd_T61 l0 (ji10)).f0) = 2 then (if 0 ≤ (wrap64 (a2 - 1)) then (if (wrap64 (a2 - 1)) < (l0.length : Int) then (towncrierref04_Tie.j1 kj3 l0 a1 a2 (((rd_T61 l0 (wrap64 (a2 - 1))).f0) != 3)) else (none)) else (none)) else (towncrierref04_Tie.j1 kj3 l0 a1 a2 true)) else (none)) else (none)) = some (r1, r2) := by first | (rw [hji10] at H; exact H) | (simp only [hji10] at H ⊢; exact H)
          have hji10w : (IntKind.i64.wrap (a1 - 1)) = ji10 := (i64_w _).trans hji10
          by_cases c11 : 0 ≤ (ji10)
          · rw [if_pos c11] at H
            have c11b0 : decide (0 ≤ (ji10)) = true := decide_eq_true c11
            clear c11
            (first | rw [c11b0] | (simp only [i64_w, i32_w]; rw [c11b0]) | skip)
            by_cases c12 : (ji10) < (l0.length : Int)
            · rw [if_pos c12] at H
              have c12b0 : decide ((ji10) < (l0.length : Int)) = true := decide_eq_true c12
              clear c12
              by_cases c13 : ((rd_T61 l0 (ji10)).f0) = 2
              · rw [if_pos c13] at H
                have c13b0 : (((rd_T61 l0 (ji10)).f0) == 2) = true := beq_iff_eq.mpr c13
                have c13b1 : (((rd_T61 l0 (ji10)).f0) != 2) = false := bne_eq_false_iff_eq.mpr c13
                clear c13
                obtain ⟨ji14, hji14⟩ : ∃ j_ : Int, (wrap64 (a2 - 1)) = j_ := ⟨_, rfl⟩
                replace H : (if 0 ≤ (ji14) then (if (ji14) < (l0.length : Int) then (towncrierref04_Tie.j1 kj3 l0 a1 a2 (((rd_T61 l0 (ji14)).f0) != 3)) else (none)) else (none)) = some (r1, r2) := by first | (rw [hji14] at H; exact H) | (simp only [hji14] at H ⊢; exact H)
                have hji14w : (IntKind.i64.wrap (a2 - 1)) = ji14 := (i64_w _).trans hji14
                by_cases c15 : 0 ≤ (ji14)
                · rw [if_pos c15] at H
                  have c15b0 : decide (0 ≤ (ji14)) = true := decide_eq_true c15
                  clear c15
                  by_cases c16 : (ji14) < (l0.length : Int)
                  · rw [if_pos c16] at H
                    have c16b0 : decide ((ji14) < (l0.length : Int)) = true := decide_eq_true c16
                    clear c16
                    have H' := Aside0.mk H
                    clear H
                    have p228 : 0 ≤ ((ji10) : Int) := of_decide_eq_true (by first | (with_reducible assumption) | assumption)
                    have q228 : (ji10) < (l0.length : Int) := of_decide_eq_true (by first | (with_reducible assumption) | assumption)
                    obtain ⟨ad228, A228_8, c228_8, e228, hx228_0, hx228_1, hx228_2, hx228_3, hx228_4, hx228_5, hx228_6, hx228_7, hx228_8, hl228_8, hi228_8⟩ := at_T61 (Kd.V_reads' HO_0.out).2.2 (ji10) p228 q228
                    cases e228
                    obtain ⟨ce228, hce228, hMe228, hcc228⟩ := Kd.V_get HO_0.out z61 (ji10) p228 (by first | exact q228 | exact of_decide_eq_true (by first | (with_reducible assumption) | assumption) | (have e_ := (Kd.V_reads' HO_0.out).1; omega))
                    obtain ⟨ua228_8, uc228_8, rfl, ul228_8, ge228_8⟩ := k61_openF hMe228
                    have hv228_8 := hcc228 8 _ rfl
                    rw [add_field _ _ 8 (by omega)] at hv228_8
                    replace hv228_8 := Option.some.inj (hv228_8.symm.trans hx228_8)
                    injection hv228_8 with hva_ hvn_ hvc_
                    rw [hva_] at ge228_8
                    rw [hvc_] at ul228_8
                    have HL228_8 := Aside0.mk (show Kd.V (Kd.int .i64) 3 _ w.heap.size _ _ ((rd_T61 l0 (ji10)).f8) from Kd.V_mk ul228_8 ge228_8)
                    clear hva_ hvn_ hvc_ ge228_8 ul228_8
                    clear hcc228 hce228
                    have HR228_8 := Aside0.mk hi228_8
                    have HC228_8 := Aside0.mk hl228_8
                    clear hi228_8 hl228_8
                    replace p228 := eq_true p228
                    replace q228 := eq_true q228
                    have p229 : 0 ≤ ((ji14) : Int) := of_decide_eq_true (by first | (with_reducible assumption) | assumption)
                    have q229 : (ji14) < (l0.length : Int) := of_decide_eq_true (by first | (with_reducible assumption) | assumption)
                    obtain ⟨ad229, A229_8, c229_8, e229, hx229_0, hx229_1, hx229_2, hx229_3, hx229_4, hx229_5, hx229_6, hx229_7, hx229_8, hl229_8, hi229_8⟩ := at_T61 (Kd.V_reads' HO_0.out).2.2 (ji14) p229 q229
                    obtain rfl : ad228 = ad229 := (by injection e229)
                    obtain ⟨ce229, hce229, hMe229, hcc229⟩ := Kd.V_get HO_0.out z61 (ji14) p229 (by first | exact q229 | exact of_decide_eq_true (by first | (with_reducible assumption) | assumption) | (have e_ := (Kd.V_reads' HO_0.out).1; omega))
                    obtain ⟨ua229_8, uc229_8, rfl, ul229_8, ge229_8⟩ := k61_openF hMe229
                    have hv229_8 := hcc229 8 _ rfl
                    rw [add_field _ _ 8 (by omega)] at hv229_8
                    replace hv229_8 := Option.some.inj (hv229_8.symm.trans hx229_8)
                    injection hv229_8 with hva_ hvn_ hvc_
                    rw [hva_] at ge229_8
                    rw [hvc_] at ul229_8
                    have HL229_8 := Aside0.mk (show Kd.V (Kd.int .i64) 3 _ w.heap.size _ _ ((rd_T61 l0 (ji14)).f8) from Kd.V_mk ul229_8 ge229_8)
                    clear hva_ hvn_ hvc_ ge229_8 ul229_8
                    clear hcc229 hce229
                    have HR229_8 := Aside0.mk hi229_8
                    have HC229_8 := Aside0.mk hl229_8
                    clear hi229_8 hl229_8
                    replace p229 := eq_true p229
                    replace q229 := eq_true q229
                    go_wp2
                    go_meet
                    case rel => exact ⟨_, ((((rd_T61 l0 (ji14)).f0) != 3)), (by first | rfl | (simp; done) | (simp only [← hji14] <;> (first | rfl | simp)) | (simp [*]; done)), H', ⟨by have := HJ3.out; first | omega | exact Nat.le_refl _⟩, ⟨by (with_reducible repeat (first | apply Kd.V_alloc | apply Kd.V_drewN | apply Kd.V_drew)); exact HO_0.out⟩, ⟨by repeat (first | (with_reducible first | exact HB.out | apply below_alloc | apply pw_below_drewN | apply below_drew1) | exact HB.out)⟩⟩
                  · rw [if_neg c16] at H
                    exact absurd H (by simp)
                · rw [if_neg c15] at H
                  exact absurd H (by simp)
              · rw [if_neg c13] at H
                have c13b0 : (((rd_T61 l0 (ji10)).f0) == 2) = false := beq_eq_false_iff_ne.mpr c13
                have c13b1 : (((rd_T61 l0 (ji10)).f0) != 2) = true := bne_iff_ne.mpr c13
                have H' := Aside0.mk H
                clear H
                have p228 : 0 ≤ ((ji10) : Int) := of_decide_eq_true (by first | (with_reducible assumption) | assumption)
                have q228 : (ji10) < (l0.length : Int) := of_decide_eq_true (by first | (with_reducible assumption) | assumption)
                obtain ⟨ad228, A228_8, c228_8, e228, hx228_0, hx228_1, hx228_2, hx228_3, hx228_4, hx228_5, hx228_6, hx228_7, hx228_8, hl228_8, hi228_8⟩ := at_T61 (Kd.V_reads' HO_0.out).2.2 (ji10) p228 q228
                cases e228
                obtain ⟨ce228, hce228, hMe228, hcc228⟩ := Kd.V_get HO_0.out z61 (ji10) p228 (by first | exact q228 | exact of_decide_eq_true (by first | (with_reducible assumption) | assumption) | (have e_ := (Kd.V_reads' HO_0.out).1; omega))
                obtain ⟨ua228_8, uc228_8, rfl, ul228_8, ge228_8⟩ := k61_openF hMe228
                have hv228_8 := hcc228 8 _ rfl
                rw [add_field _ _ 8 (by omega)] at hv228_8
                replace hv228_8 := Option.some.inj (hv228_8.symm.trans hx228_8)
                injection hv228_8 with hva_ hvn_ hvc_
                rw [hva_] at ge228_8
                rw [hvc_] at ul228_8
                have HL228_8 := Aside0.mk (show Kd.V (Kd.int .i64) 3 _ w.heap.size _ _ ((rd_T61 l0 (ji10)).f8) from Kd.V_mk ul228_8 ge228_8)
                clear hva_ hvn_ hvc_ ge228_8 ul228_8
                clear hcc228 hce228
                have HR228_8 := Aside0.mk hi228_8
                have HC228_8 := Aside0.mk hl228_8
                clear hi228_8 hl228_8
                replace p228 := eq_true p228
                replace q228 := eq_true q228
                go_wp2
                go_meet
                case rel => exact ⟨_, (true), (by first | rfl | (simp; done) | (simp [*]; done)), H', ⟨by have := HJ3.out; first | omega | exact Nat.le_refl _⟩, ⟨by (with_reducible repeat (first | apply Kd.V_alloc | apply Kd.V_drewN | apply Kd.V_drew)); exact HO_0.out⟩, ⟨by repeat (first | (with_reducible first | exact HB.out | apply below_alloc | apply pw_below_drewN | apply below_drew1) | exact HB.out)⟩⟩
            · rw [if_neg c12] at H
              exact absurd H (by simp)
          · rw [if_neg c11] at H
            exact absurd H (by simp)
        case rest =>
          clear HC9
          try clear c1
          try clear c2
          try clear p2
          try clear q2
          try clear hx2
          try clear c4
          try clear c5
          try clear c6
          try clear p6
          try clear c8
          try clear c11
          try clear c11b0
          try clear c12
          try clear c12b0
          try clear c13
          try clear c13b0
          try clear c13b1
          try clear c15
          try clear c15b0
          try clear c16
          try clear c16b0
          try clear hx228_0
          try clear hx228_1
          try clear hx228_2
          try clear hx228_3
          try clear hx228_4
          try clear hx228_5
          try clear hx228_6
          try clear hx228_7
          try clear hx228_8
          try clear hx229_0
          try clear hx229_1
          try clear hx229_2
          try clear hx229_3
          try clear hx229_4
          try clear hx229_5
          try clear hx229_6
          try clear hx229_7
          try clear hx229_8
          try clear p2
          try clear p228
          try clear p229
          try clear q228
          try clear q229
          obtain ⟨kq, x35_8, rfl, HA, HJ8, HO_0, HB⟩ := hcut
          cases kq with
          | zero => exact absurd HA.out (by simp [towncrierref04_Tie.j1])
          | succ kj8 =>
            have H := HA.out
            clear HA
            simp only [towncrierref04_Tie.j1] at H
            by_cases c17 : x35_8 = true
            · subst c17
              have H1 : (some (l0, 2)) = some (r1, r2) := by rw [if_pos rfl] at H; exact H
              clear H
              have H := H1
              clear H1
              simp only [Option.some.injEq, Prod.mk.injEq] at H
              obtain ⟨rfl, rfl⟩ := H
              go_wp2
              go_ret2
              exact ⟨_, by first | rfl | (simp [errW_none, errW_some] <;> rfl) | (simp [*, errW_none, errW_some] <;> rfl), by (with_reducible repeat (first | apply Kd.V_alloc | apply Kd.V_drewN | apply Kd.V_drew)); exact HO_0.out, by repeat (first | (with_reducible first | exact HB.out | apply below_alloc | apply pw_below_drewN | apply below_drew1) | exact HB.out)⟩
            · replace c17 := Bool.eq_false_iff.mpr c17
              subst c17
              have H1 : (if 0 ≤ (wrap64 (a1 - 1)) then (if (wrap64 (a1 - 1)) < (l0.length : Int) then (if ((rd_T61 l0 (wrap64 (a1 - 1))).f3) = 0 then (if 0 ≤ (wrap64 (a2 - 1)) then (if (wrap64 (a2 - 1)) < (l0.length : Int) then (towncrierref04_Tie.j2 kj8 l0 a1 a2 (((rd_T61 l0 (wrap64 (a2 - 1))).f2) != 0)) else (none)) else (none)) else (towncrierref04_Tie.j2 kj8 l0 a1 a2 true)) else (none)) else (none)) = some (r1, r2) := by rw [if_neg (show ¬ (false = true) by decide)] at H; exact H
              clear H
              have H := H1
              clear H1
              have HC18 := Aside0.mk H
              clear H
              go_upto_region 5 with (fail)
              go_cut [52] (fun v52 wc => ∃ (kq : Nat) (x52_17 : Bool), v52 = .bool x52_17 ∧ Aside0 (towncrierref04_Tie.j2 kq l0 a1 a2 x52_17 = some (r1, r2)) ∧ Aside0 (kq ≤ kj8) ∧ Aside0 (Kd.V k61 61 wc w.heap.size (fun k_ => (P0_ k_ ∨ w.heap.size ≤ k_)) (.slice A0 l0.length c0) l0) ∧ Aside0 (Below w.heap.size w wc))
              case first =>
                have H := HC18.out
                clear HC18
                obtain ⟨ji19, hji19⟩ : ∃ j_ : Int, (wrap64 (a1 - 1)) = j_ := ⟨_, rfl⟩
                replace H : (if 0 ≤ (ji19) then (if (ji19) < (l0.length : Int) then (if ((rd_T61 l0 (ji19)).f3) = 0 then (if 0 ≤ (wrap64 (a2 - 1)) then (if (wrap64 (a2 - 1)) < (l0.length : Int) then (towncrierref04_Tie.j2 kj8 l0 a1 a2 (((rd_T61 l0 (wrap64 (a2 - 1))).f2) != 0)) else (none)) else (none)) else (towncrierref04_Tie.j2 kj8 l0 a1 a2 true)) else (none)) else (none)) = some (r1, r2) := by first | (rw [hji19] at H; exact H) | (simp only [hji19] at H ⊢; exact H)
                have hji19w : (IntKind.i64.wrap (a1 - 1)) = ji19 := (i64_w _).trans hji19
                by_cases c20 : 0 ≤ (ji19)
                · rw [if_pos c20] at H
                  have c20b0 : decide (0 ≤ (ji19)) = true := decide_eq_true c20
                  clear c20
                  (first | rw [c20b0] | (simp only [i64_w, i32_w]; rw [c20b0]) | skip)
                  by_cases c21 : (ji19) < (l0.length : Int)
                  · rw [if_pos c21] at H
                    have c21b0 : decide ((ji19) < (l0.length : Int)) = true := decide_eq_true c21
                    clear c21
                    by_cases c22 : ((rd_T61 l0 (ji19)).f3) = 0
                    · rw [if_pos c22] at H
                      have c22b0 : (((rd_T61 l0 (ji19)).f3) == 0) = true := beq_iff_eq.mpr c22
                      have c22b1 : (((rd_T61 l0 (ji19)).f3) != 0) = false := bne_eq_false_iff_eq.mpr c22
                      clear c22
                      obtain ⟨ji23, hji23⟩ : ∃ j_ : Int, (wrap64 (a2 - 1)) = j_ := ⟨_, rfl⟩
                      replace H : (if 0 ≤ (ji23) then (if (ji23) < (l0.length : Int) then (towncrierref04_Tie.j2 kj8 l0 a1 a2 (((rd_T61 l0 (ji23)).f2) != 0)) else (none)) else (none)) = some (r1, r2) := by first | (rw [hji23] at H; exact H) | (simp only [hji23] at H ⊢; exact H)
                      have hji23w : (IntKind.i64.wrap (a2 - 1)) = ji23 := (i64_w _).trans hji23
                      by_cases c24 : 0 ≤ (ji23)
                      · rw [if_pos c24] at H
                        have c24b0 : decide (0 ≤ (ji23)) = true := decide_eq_true c24
                        clear c24
                        by_cases c25 : (ji23) < (l0.length : Int)
                        · rw [if_pos c25] at H
                          have c25b0 : decide ((ji23) < (l0.length : Int)) = true := decide_eq_true c25
                          clear c25
                          have H' := Aside0.mk H
                          clear H
                          have p230 : 0 ≤ ((ji19) : Int) := of_decide_eq_true (by first | (with_reducible assumption) | assumption)
                          have q230 : (ji19) < (l0.length : Int) := of_decide_eq_true (by first | (with_reducible assumption) | assumption)
                          obtain ⟨ad230, A230_8, c230_8, e230, hx230_0, hx230_1, hx230_2, hx230_3, hx230_4, hx230_5, hx230_6, hx230_7, hx230_8, hl230_8, hi230_8⟩ := at_T61 (Kd.V_reads' HO_0.out).2.2 (ji19) p230 q230
                          cases e230
                          obtain ⟨ce230, hce230, hMe230, hcc230⟩ := Kd.V_get HO_0.out z61 (ji19) p230 (by first | exact q230 | exact of_decide_eq_true (by first | (with_reducible assumption) | assumption) | (have e_ := (Kd.V_reads' HO_0.out).1; omega))
                          obtain ⟨ua230_8, uc230_8, rfl, ul230_8, ge230_8⟩ := k61_openF hMe230
                          have hv230_8 := hcc230 8 _ rfl
                          rw [add_field _ _ 8 (by omega)] at hv230_8
                          replace hv230_8 := Option.some.inj (hv230_8.symm.trans hx230_8)
                          injection hv230_8 with hva_ hvn_ hvc_
                          rw [hva_] at ge230_8
                          rw [hvc_] at ul230_8
                          have HL230_8 := Aside0.mk (show Kd.V (Kd.int .i64) 3 _ w.heap.size _ _ ((rd_T61 l0 (ji19)).f8) from Kd.V_mk ul230_8 ge230_8)
                          clear hva_ hvn_ hvc_ ge230_8 ul230_8
                          clear hcc230 hce230
                          have HR230_8 := Aside0.mk hi230_8
                          have HC230_8 := Aside0.mk hl230_8
                          clear hi230_8 hl230_8
                          replace p230 := eq_true p230
                          replace q230 := eq_true q230
                          have p231 : 0 ≤ ((ji23) : Int) := of_decide_eq_true (by first | (with_reducible assumption) | assumption)
                          have q231 : (ji23) < (l0.length : Int) := of_decide_eq_true (by first | (with_reducible assumption) | assumption)
                          obtain ⟨ad231, A231_8, c231_8, e231, hx231_0, hx231_1, hx231_2, hx231_3, hx231_4, hx231_5, hx231_6, hx231_7, hx231_8, hl231_8, hi231_8⟩ := at_T61 (Kd.V_reads' HO_0.out).2.2 (ji23) p231 q231
                          obtain rfl : ad230 = ad231 := (by injection e231)
                          obtain ⟨ce231, hce231, hMe231, hcc231⟩ := Kd.V_get HO_0.out z61 (ji23) p231 (by first | exact q231 | exact of_decide_eq_true (by first | (with_reducible assumption) | assumption) | (have e_ := (Kd.V_reads' HO_0.out).1; omega))
                          obtain ⟨ua231_8, uc231_8, rfl, ul231_8, ge231_8⟩ := k61_openF hMe231
                          have hv231_8 := hcc231 8 _ rfl
                          rw [add_field _ _ 8 (by omega)] at hv231_8
                          replace hv231_8 := Option.some.inj (hv231_8.symm.trans hx231_8)
                          injection hv231_8 with hva_ hvn_ hvc_
                          rw [hva_] at ge231_8
                          rw [hvc_] at ul231_8
                          have HL231_8 := Aside0.mk (show Kd.V (Kd.int .i64) 3 _ w.heap.size _ _ ((rd_T61 l0 (ji23)).f8) from Kd.V_mk ul231_8 ge231_8)
                          clear hva_ hvn_ hvc_ ge231_8 ul231_8
                          clear hcc231 hce231
                          have HR231_8 := Aside0.mk hi231_8
                          have HC231_8 := Aside0.mk hl231_8
                          clear hi231_8 hl231_8
                          replace p231 := eq_true p231
                          replace q231 := eq_true q231
                          go_wp2
                          go_meet
                          case rel => exact ⟨_, ((((rd_T61 l0 (ji23)).f2) != 0)), (by first | rfl | (simp; done) | (simp only [← hji23] <;> (first | rfl | simp)) | (simp [*]; done)), H', ⟨by have := HJ3.out; have := HJ8.out; first | omega | exact Nat.le_refl _⟩, ⟨by (with_reducible repeat (first | apply Kd.V_alloc | apply Kd.V_drewN | apply Kd.V_drew)); exact HO_0.out⟩, ⟨by repeat (first | (with_reducible first | exact HB.out | apply below_alloc | apply pw_below_drewN | apply below_drew1) | exact HB.out)⟩⟩
                        · rw [if_neg c25] at H
                          exact absurd H (by simp)
                      · rw [if_neg c24] at H
                        exact absurd H (by simp)
                    · rw [if_neg c22] at H
                      have c22b0 : (((rd_T61 l0 (ji19)).f3) == 0) = false := beq_eq_false_iff_ne.mpr c22
                      have c22b1 : (((rd_T61 l0 (ji19)).f3) != 0) = true := bne_iff_ne.mpr c22
                      have H' := Aside0.mk H
                      clear H
                      have p230 : 0 ≤ ((ji19) : Int) := of_decide_eq_true (by first | (with_reducible assumption) | assumption)
                      have q230 : (ji19) < (l0.length : Int) := of_decide_eq_true (by first | (with_reducible assumption) | assumption)
                      obtain ⟨ad230, A230_8, c230_8, e230, hx230_0, hx230_1, hx230_2, hx230_3, hx230_4, hx230_5, hx230_6, hx230_7, hx230_8, hl230_8, hi230_8⟩ := at_T61 (Kd.V_reads' HO_0.out).2.2 (ji19) p230 q230
                      cases e230
                      obtain ⟨ce230, hce230, hMe230, hcc230⟩ := Kd.V_get HO_0.out z61 (ji19) p230 (by first | exact q230 | exact of_decide_eq_true (by first | (with_reducible assumption) | assumption) | (have e_ := (Kd.V_reads' HO_0.out).1; omega))
                      obtain ⟨ua230_8, uc230_8, rfl, ul230_8, ge230_8⟩ := k61_openF hMe230
                      have hv230_8 := hcc230 8 _ rfl
                      rw [add_field _ _ 8 (by omega)] at hv230_8
                      replace hv230_8 := Option.some.inj (hv230_8.symm.trans hx230_8)
                      injection hv230_8 with hva_ hvn_ hvc_
                      rw [hva_] at ge230_8
                      rw [hvc_] at ul230_8
                      have HL230_8 := Aside0.mk (show Kd.V (Kd.int .i64) 3 _ w.heap.size _ _ ((rd_T61 l0 (ji19)).f8) from Kd.V_mk ul230_8 ge230_8)
                      clear hva_ hvn_ hvc_ ge230_8 ul230_8
                      clear hcc230 hce230
                      have HR230_8 := Aside0.mk hi230_8
                      have HC230_8 := Aside0.mk hl230_8
                      clear hi230_8 hl230_8
                      replace p230 := eq_true p230
                      replace q230 := eq_true q230
                      go_wp2
                      go_meet
                      case rel => exact ⟨_, (true), (by first | rfl | (simp; done) | (simp [*]; done)), H', ⟨by have := HJ3.out; have := HJ8.out; first | omega | exact Nat.le_refl _⟩, ⟨by (with_reducible repeat (first | apply Kd.V_alloc | apply Kd.V_drewN | apply Kd.V_drew)); exact HO_0.out⟩, ⟨by repeat (first | (with_reducible first | exact HB.out | apply below_alloc | apply pw_below_drewN | apply below_drew1) | exact HB.out)⟩⟩
                  · rw [if_neg c21] at H
                    exact absurd H (by simp)
                · rw [if_neg c20] at H
                  exact absurd H (by simp)
              case rest =>
                clear HC18
                try clear c1
                try clear c2
                try clear p2
                try clear q2
                try clear hx2
                try clear c4
                try clear c5
                try clear c6
                try clear p6
                try clear c8
                try clear c11
                try clear c11b0
                try clear c12
                try clear c12b0
                try clear c13
                try clear c13b0
                try clear c13b1
                try clear c15
                try clear c15b0
                try clear c16
                try clear c16b0
                try clear c17
                try clear c20
                try clear c20b0
                try clear c21
                try clear c21b0
                try clear c22
                try clear c22b0
                try clear c22b1
                try clear p22
                try clear q22
                try clear hx22
                try clear c23
                try clear p23
                try clear q23
                try clear hx23
                try clear c24
                try clear c24b0
                try clear c25
                try clear c25b0
                try clear hx228_0
                try clear hx228_1
                try clear hx228_2
                try clear hx228_3
                try clear hx228_4
                try clear hx228_5
                try clear hx228_6
                try clear hx228_7
                try clear hx228_8
                try clear hx229_0
                try clear hx229_1
                try clear hx229_2
                try clear hx229_3
                try clear hx229_4
                try clear hx229_5
                try clear hx229_6
                try clear hx229_7
                try clear hx229_8
                try clear hx230_0
                try clear hx230_1
                try clear hx230_2
                try clear hx230_3
                try clear hx230_4
                try clear hx230_5
                try clear hx230_6
                try clear hx230_7
                try clear hx230_8
                try clear hx231_0
                try clear hx231_1
                try clear hx231_2
                try clear hx231_3
                try clear hx231_4
                try clear hx231_5
                try clear hx231_6
                try clear hx231_7
                try clear hx231_8
                try clear p2
                try clear p228
                try clear p229
                try clear p230
                try clear p231
                try clear p6
                try clear q2
                try clear q228
                try clear q229
                try clear q230
                try clear q231
                obtain ⟨kq, x52_17, rfl, HA, HJ17, HO_0, HB⟩ := hcut
                cases kq with
                | zero => exact absurd HA.out (by simp [towncrierref04_Tie.j2])
                | succ kj17 =>
                  have H := HA.out
                  clear HA
                  simp only [towncrierref04_Tie.j2] at H
                  by_cases c26 : x52_17 = true
                  · subst c26
                    have H1 : (some (l0, 6)) = some (r1, r2) := by rw [if_pos rfl] at H; exact H
                    clear H
                    have H := H1
                    clear H1
                    simp only [Option.some.injEq, Prod.mk.injEq] at H
                    obtain ⟨rfl, rfl⟩ := H
                    go_wp2
                    go_ret2
                    exact ⟨_, by first | rfl | (simp [errW_none, errW_some] <;> rfl) | (simp [*, errW_none, errW_some] <;> rfl), by (with_reducible repeat (first | apply Kd.V_alloc | apply Kd.V_drewN | apply Kd.V_drew)); exact HO_0.out, by repeat (first | (with_reducible first | exact HB.out | apply below_alloc | apply pw_below_drewN | apply below_drew1) | exact HB.out)⟩
                  · replace c26 := Bool.eq_false_iff.mpr c26
                    subst c26
                    have H1 : ((towncrierref04_Over.f kj17 l0 a1).bind fun t232 => ((towncrierref01_Has.f kj17 t232 a2).bind fun t235 => (if t235 = true then (some (l0, 3)) else ((towncrierref04_Copy.f kj17 l0).bind fun t236 => (if 0 ≤ (wrap64 (a1 - 1)) then (if (wrap64 (a1 - 1)) < (t236.length : Int) then ((some (t236.set ((wrap64 (a1 - 1)) : Int).toNat (⟨(rd_T61 t236 (wrap64 (a1 - 1))).f0, (rd_T61 t236 (wrap64 (a1 - 1))).f1, (rd_T61 t236 (wrap64 (a1 - 1))).f2, a2, (rd_T61 t236 (wrap64 (a1 - 1))).f4, (rd_T61 t236 (wrap64 (a1 - 1))).f5, (rd_T61 t236 (wrap64 (a1 - 1))).f6, (rd_T61 t236 (wrap64 (a1 - 1))).f7, (rd_T61 t236 (wrap64 (a1 - 1))).f8⟩ : S61) : List (S61))).bind fun y239 => (if 0 ≤ (wrap64 (a2 - 1)) then (if (wrap64 (a2 - 1)) < (t236.length : Int) then (some ((y239.set ((wrap64 (a2 - 1)) : Int).toNat (⟨(rd_T61 y239 (wrap64 (a2 - 1))).f0, (rd_T61 y239 (wrap64 (a2 - 1))).f1, a1, (rd_T61 y239 (wrap64 (a2 - 1))).f3, (rd_T61 y239 (wrap64 (a2 - 1))).f4, (rd_T61 y239 (wrap64 (a2 - 1))).f5, (rd_T61 y239 (wrap64 (a2 - 1))).f6, (rd_T61 y239 (wrap64 (a2 - 1))).f7, (rd_T61 y239 (wrap64 (a2 - 1))).f8⟩ : S61)), 0)) else (none)) else (none))) else (none)) else (none)))))) = some (r1, r2) := by rw [if_neg (show ¬ (false = true) by decide)] at H; exact H
                    clear H
                    have H := H1
                    clear H1
                    replace H := Option.bind_eq_some_iff.mp H
                    obtain ⟨t232, A270, H⟩ := H
                    replace H : ((towncrierref01_Has.f kj17 t232 a2).bind fun t235 => (if t235 = true then (some (l0, 3)) else ((towncrierref04_Copy.f kj17 l0).bind fun t236 => (if 0 ≤ (wrap64 (a1 - 1)) then (if (wrap64 (a1 - 1)) < (t236.length : Int) then ((some (t236.set ((wrap64 (a1 - 1)) : Int).toNat (⟨(rd_T61 t236 (wrap64 (a1 - 1))).f0, (rd_T61 t236 (wrap64 (a1 - 1))).f1, (rd_T61 t236 (wrap64 (a1 - 1))).f2, a2, (rd_T61 t236 (wrap64 (a1 - 1))).f4, (rd_T61 t236 (wrap64 (a1 - 1))).f5, (rd_T61 t236 (wrap64 (a1 - 1))).f6, (rd_T61 t236 (wrap64 (a1 - 1))).f7, (rd_T61 t236 (wrap64 (a1 - 1))).f8⟩ : S61) : List (S61))).bind fun y239 => (if 0 ≤ (wrap64 (a2 - 1)) then (if (wrap64 (a2 - 1)) < (t236.length : Int) then (some ((y239.set ((wrap64 (a2 - 1)) : Int).toNat (⟨(rd_T61 y239 (wrap64 (a2 - 1))).f0, (rd_T61 y239 (wrap64 (a2 - 1))).f1, a1, (rd_T61 y239 (wrap64 (a2 - 1))).f3, (rd_T61 y239 (wrap64 (a2 - 1))).f4, (rd_T61 y239 (wrap64 (a2 - 1))).f5, (rd_T61 y239 (wrap64 (a2 - 1))).f6, (rd_T61 y239 (wrap64 (a2 - 1))).f7, (rd_T61 y239 (wrap64 (a2 - 1))).f8⟩ : S61)), 0)) else (none)) else (none))) else (none)) else (none))))) = some (r1, r2) := H
                    have A27 := Aside0.mk A270
                    clear A270
                    replace H := Option.bind_eq_some_iff.mp H
                    obtain ⟨t235, A280, H⟩ := H
                    replace H : (if t235 = true then (some (l0, 3)) else ((towncrierref04_Copy.f kj17 l0).bind fun t236 => (if 0 ≤ (wrap64 (a1 - 1)) then (if (wrap64 (a1 - 1)) < (t236.length : Int) then ((some (t236.set ((wrap64 (a1 - 1)) : Int).toNat (⟨(rd_T61 t236 (wrap64 (a1 - 1))).f0, (rd_T61 t236 (wrap64 (a1 - 1))).f1, (rd_T61 t236 (wrap64 (a1 - 1))).f2, a2, (rd_T61 t236 (wrap64 (a1 - 1))).f4, (rd_T61 t236 (wrap64 (a1 - 1))).f5, (rd_T61 t236 (wrap64 (a1 - 1))).f6, (rd_T61 t236 (wrap64 (a1 - 1))).f7, (rd_T61 t236 (wrap64 (a1 - 1))).f8⟩ : S61) : List (S61))).bind fun y239 => (if 0 ≤ (wrap64 (a2 - 1)) then (if (wrap64 (a2 - 1)) < (t236.length : Int) then (some ((y239.set ((wrap64 (a2 - 1)) : Int).toNat (⟨(rd_T61 y239 (wrap64 (a2 - 1))).f0, (rd_T61 y239 (wrap64 (a2 - 1))).f1, a1, (rd_T61 y239 (wrap64 (a2 - 1))).f3, (rd_T61 y239 (wrap64 (a2 - 1))).f4, (rd_T61 y239 (wrap64 (a2 - 1))).f5, (rd_T61 y239 (wrap64 (a2 - 1))).f6, (rd_T61 y239 (wrap64 (a2 - 1))).f7, (rd_T61 y239 (wrap64 (a2 - 1))).f8⟩ : S61)), 0)) else (none)) else (none))) else (none)) else (none)))) = some (r1, r2) := H
                    have A28 := Aside0.mk A280
                    clear A280
                    by_cases c29 : t235 = true
                    · subst c29
                      have H1 : (some (l0, 3)) = some (r1, r2) := by rw [if_pos rfl] at H; exact H
                      clear H
                      have H := H1
                      clear H1
                      simp only [Option.some.injEq, Prod.mk.injEq] at H
                      obtain ⟨rfl, rfl⟩ := H
                      go_wp2_with (first | ((with_reducible refine gate_callee (f := 67) rfl ?_); refine goesL_ (some 56) rfl rfl Try.func67 (by kernel_rfl) rfl #[.slice A0 l0.length c0, .int .i64 a1] rfl (by (try simp only [List.map_toArray, List.map_cons, List.map_nil]); first | done | rfl | (simp only [List.length_drop, List.length_take]; rfl)) ?_; (with_reducible refine (towncrierref04_Over.calls kj17 _ _ l0 a1 t232 _ ?side1 ?side2 A27.out).mono ?_); (case side1 => repeat (first | exact (Kd.V_reads' HO_0.out).2.2 | (with_reducible refine Kd.C_alloc ?_ _) | (with_reducible refine Kd.C_drewN ?_ _) | (with_reducible refine Kd.C_drew ?_))); (case side2 => exact (Kd.V_reads' HO_0.out).2.1); rintro e w30 ⟨v233, rfl, ho0, hb⟩; refine ⟨_, rfl, ?_⟩; have n0_ := Aside0.mk (Kd.V_elder' (by (with_reducible repeat (first | apply Kd.V_alloc | apply Kd.V_drewN | apply Kd.V_drew)); exact HO_0.out) (Kd.R_base ho0) hb); have n1_ := Aside0.mk (Kd.R_lower (Kd.R_newM (M := fun k_ => (w.heap.size ≤ k_)) ho0 (below_size (by repeat (first | (with_reducible first | exact HB.out | apply below_alloc | apply pw_below_drewN | apply below_drew1) | exact HB.out))) (fun k_ h_ => h_)) (below_size (by repeat (first | (with_reducible first | exact HB.out | apply below_alloc | apply pw_below_drewN | apply below_drew1) | exact HB.out)))); have n2_ := Aside0.mk (below_step (by repeat (first | (with_reducible first | exact HB.out | apply below_alloc | apply pw_below_drewN | apply below_drew1) | exact HB.out)) hb); clear HO_0; clear HB; have HO_0 := n0_; have HO234 := n1_; have HB := n2_; clear n0_ n1_ n2_; (try clear hb); (try clear hb2); (try clear hk); (try clear hi); (try clear ho0); obtain ⟨Ao31, co31, eo31⟩ := Kd.R_slice HO234.out; subst eo31) | ((with_reducible refine gate_callee (f := 34) rfl ?_); refine goesL_ (some 58) rfl rfl Try.func34 (by kernel_rfl) rfl #[.slice Ao31 t232.length co31, .int .i64 a2] rfl (by (try simp only [List.map_toArray, List.map_cons, List.map_nil]); first | done | rfl | (simp only [List.length_drop, List.length_take]; rfl)) ?_; (with_reducible refine (towncrierref01_Has.calls kj17 _ _ t232 a2 true _ ?side1 ?side2 A28.out).mono ?_); (case side1 => repeat (first | exact (Kd.R_reads' HO234.out).2.2 | (with_reducible refine Kd.C_alloc ?_ _) | (with_reducible refine Kd.C_drewN ?_ _) | (with_reducible refine Kd.C_drew ?_))); (case side2 => exact (Kd.R_reads' HO234.out).2.1); rintro e w' ⟨rfl, ⟨nd, rfl⟩⟩; refine ⟨_, rfl, ?_⟩))
                      go_ret2
                      exact ⟨_, by first | rfl | (simp [errW_none, errW_some] <;> rfl) | (simp [*, errW_none, errW_some] <;> rfl), by (with_reducible repeat (first | apply Kd.V_alloc | apply Kd.V_drewN | apply Kd.V_drew)); exact Kd.V_mono HO_0.out (fun _ hk => hk.1), by repeat (first | (with_reducible first | exact HB.out | apply below_alloc | apply pw_below_drewN | apply below_drew1) | exact HB.out)⟩
                    · replace c29 := Bool.eq_false_iff.mpr c29
                      subst c29
                      have H1 : ((towncrierref04_Copy.f kj17 l0).bind fun t236 => (if 0 ≤ (wrap64 (a1 - 1)) then (if (wrap64 (a1 - 1)) < (t236.length : Int) then ((some (t236.set ((wrap64 (a1 - 1)) : Int).toNat (⟨(rd_T61 t236 (wrap64 (a1 - 1))).f0, (rd_T61 t236 (wrap64 (a1 - 1))).f1, (rd_T61 t236 (wrap64 (a1 - 1))).f2, a2, (rd_T61 t236 (wrap64 (a1 - 1))).f4, (rd_T61 t236 (wrap64 (a1 - 1))).f5, (rd_T61 t236 (wrap64 (a1 - 1))).f6, (rd_T61 t236 (wrap64 (a1 - 1))).f7, (rd_T61 t236 (wrap64 (a1 - 1))).f8⟩ : S61) : List (S61))).bind fun y239 => (if 0 ≤ (wrap64 (a2 - 1)) then (if (wrap64 (a2 - 1)) < (t236.length : Int) then (some ((y239.set ((wrap64 (a2 - 1)) : Int).toNat (⟨(rd_T61 y239 (wrap64 (a2 - 1))).f0, (rd_T61 y239 (wrap64 (a2 - 1))).f1, a1, (rd_T61 y239 (wrap64 (a2 - 1))).f3, (rd_T61 y239 (wrap64 (a2 - 1))).f4, (rd_T61 y239 (wrap64 (a2 - 1))).f5, (rd_T61 y239 (wrap64 (a2 - 1))).f6, (rd_T61 y239 (wrap64 (a2 - 1))).f7, (rd_T61 y239 (wrap64 (a2 - 1))).f8⟩ : S61)), 0)) else (none)) else (none))) else (none)) else (none))) = some (r1, r2) := by rw [if_neg (show ¬ (false = true) by decide)] at H; exact H
                      clear H
                      have H := H1
                      clear H1
                      replace H := Option.bind_eq_some_iff.mp H
                      obtain ⟨t236, A320, H⟩ := H
                      replace H : (if 0 ≤ (wrap64 (a1 - 1)) then (if (wrap64 (a1 - 1)) < (t236.length : Int) then ((some (t236.set ((wrap64 (a1 - 1)) : Int).toNat (⟨(rd_T61 t236 (wrap64 (a1 - 1))).f0, (rd_T61 t236 (wrap64 (a1 - 1))).f1, (rd_T61 t236 (wrap64 (a1 - 1))).f2, a2, (rd_T61 t236 (wrap64 (a1 - 1))).f4, (rd_T61 t236 (wrap64 (a1 - 1))).f5, (rd_T61 t236 (wrap64 (a1 - 1))).f6, (rd_T61 t236 (wrap64 (a1 - 1))).f7, (rd_T61 t236 (wrap64 (a1 - 1))).f8⟩ : S61) : List (S61))).bind fun y239 => (if 0 ≤ (wrap64 (a2 - 1)) then (if (wrap64 (a2 - 1)) < (t236.length : Int) then (some ((y239.set ((wrap64 (a2 - 1)) : Int).toNat (⟨(rd_T61 y239 (wrap64 (a2 - 1))).f0, (rd_T61 y239 (wrap64 (a2 - 1))).f1, a1, (rd_T61 y239 (wrap64 (a2 - 1))).f3, (rd_T61 y239 (wrap64 (a2 - 1))).f4, (rd_T61 y239 (wrap64 (a2 - 1))).f5, (rd_T61 y239 (wrap64 (a2 - 1))).f6, (rd_T61 y239 (wrap64 (a2 - 1))).f7, (rd_T61 y239 (wrap64 (a2 - 1))).f8⟩ : S61)), 0)) else (none)) else (none))) else (none)) else (none)) = some (r1, r2) := H
                      have A32 := Aside0.mk A320
                      clear A320
                      obtain ⟨ji33, hji33⟩ : ∃ j_ : Int, (wrap64 (a1 - 1)) = j_ := ⟨_, rfl⟩
                      replace H : (if 0 ≤ (ji33) then (if (ji33) < (t236.length : Int) then ((some (t236.set ((ji33) : Int).toNat (⟨(rd_T61 t236 (ji33)).f0, (rd_T61 t236 (ji33)).f1, (rd_T61 t236 (ji33)).f2, a2, (rd_T61 t236 (ji33)).f4, (rd_T61 t236 (ji33)).f5, (rd_T61 t236 (ji33)).f6, (rd_T61 t236 (ji33)).f7, (rd_T61 t236 (ji33)).f8⟩ : S61) : List (S61))).bind fun y239 => (if 0 ≤ (wrap64 (a2 - 1)) then (if (wrap64 (a2 - 1)) < (t236.length : Int) then (some ((y239.set ((wrap64 (a2 - 1)) : Int).toNat (⟨(rd_T61 y239 (wrap64 (a2 - 1))).f0, (rd_T61 y239 (wrap64 (a2 - 1))).f1, a1, (rd_T61 y239 (wrap64 (a2 - 1))).f3, (rd_T61 y239 (wrap64 (a2 - 1))).f4, (rd_T61 y239 (wrap64 (a2 - 1))).f5, (rd_T61 y239 (wrap64 (a2 - 1))).f6, (rd_T61 y239 (wrap64 (a2 - 1))).f7, (rd_T61 y239 (wrap64 (a2 - 1))).f8⟩ : S61)), 0)) else (none)) else (none))) else (none)) else (none)) = some (r1, r2) := by first | (rw [hji33] at H; exact H) | (simp only [hji33] at H ⊢; exact H)
                      (try rw [hji33] at A27)
                      (try rw [hji33] at A28)
                      (try rw [hji33] at A32)
                      have hji33w : (IntKind.i64.wrap (a1 - 1)) = ji33 := (i64_w _).trans hji33
                      by_cases c34 : 0 ≤ (ji33)
                      · rw [if_pos c34] at H
                        have c34b0 : decide (0 ≤ (ji33)) = true := decide_eq_true c34
                        clear c34
                        by_cases c35 : (ji33) < (t236.length : Int)
                        · rw [if_pos c35] at H
                          have c35b0 : decide ((ji33) < (t236.length : Int)) = true := decide_eq_true c35
                          clear c35
                          obtain ⟨y239, hy239⟩ : ∃ y_ : List (S61), y_ = (t236.set ((ji33) : Int).toNat (⟨(rd_T61 t236 (ji33)).f0, (rd_T61 t236 (ji33)).f1, (rd_T61 t236 (ji33)).f2, a2, (rd_T61 t236 (ji33)).f4, (rd_T61 t236 (ji33)).f5, (rd_T61 t236 (ji33)).f6, (rd_T61 t236 (ji33)).f7, (rd_T61 t236 (ji33)).f8⟩ : S61)) := ⟨_, rfl⟩
                          replace H : (if 0 ≤ (wrap64 (a2 - 1)) then (if (wrap64 (a2 - 1)) < (t236.length : Int) then (some ((y239.set ((wrap64 (a2 - 1)) : Int).toNat (⟨(rd_T61 y239 (wrap64 (a2 - 1))).f0, (rd_T61 y239 (wrap64 (a2 - 1))).f1, a1, (rd_T61 y239 (wrap64 (a2 - 1))).f3, (rd_T61 y239 (wrap64 (a2 - 1))).f4, (rd_T61 y239 (wrap64 (a2 - 1))).f5, (rd_T61 y239 (wrap64 (a2 - 1))).f6, (rd_T61 y239 (wrap64 (a2 - 1))).f7, (rd_T61 y239 (wrap64 (a2 - 1))).f8⟩ : S61)), 0)) else (none)) else (none)) = some (r1, r2) := by first | (rw [hy239]; with_reducible exact H) | (have H2_ := (Option.bind_some _ _).symm.trans H; rw [hy239]; with_reducible exact H2_) | (have H2_ := (Option.bind_some _ _).symm.trans H; with_reducible exact H2_) | with_reducible exact H | (rw [hy239]; exact H) | exact H
                          have Ny239 := Aside0.mk hy239
                          clear hy239
                          obtain ⟨ji37, hji37⟩ : ∃ j_ : Int, (wrap64 (a2 - 1)) = j_ := ⟨_, rfl⟩
                          replace H : (if 0 ≤ (ji37) then (if (ji37) < (t236.length : Int) then (some ((y239.set ((ji37) : Int).toNat (⟨(rd_T61 y239 (ji37)).f0, (rd_T61 y239 (ji37)).f1, a1, (rd_T61 y239 (ji37)).f3, (rd_T61 y239 (ji37)).f4, (rd_T61 y239 (ji37)).f5, (rd_T61 y239 (ji37)).f6, (rd_T61 y239 (ji37)).f7, (rd_T61 y239 (ji37)).f8⟩ : S61)), 0)) else (none)) else (none)) = some (r1, r2) := by first | (rw [hji37] at H; exact H) | (simp only [hji37] at H ⊢; exact H)
                          (try rw [hji37] at A27)
                          (try rw [hji37] at A28)
                          (try rw [hji37] at A32)
                          have hji37w : (IntKind.i64.wrap (a2 - 1)) = ji37 := (i64_w _).trans hji37
                          by_cases c38 : 0 ≤ (ji37)
                          · rw [if_pos c38] at H
                            have c38b0 : decide (0 ≤ (ji37)) = true := decide_eq_true c38
                            clear c38
                            by_cases c39 : (ji37) < (t236.length : Int)
                            · rw [if_pos c39] at H
                              have c39b0 : decide ((ji37) < (t236.length : Int)) = true := decide_eq_true c39
                              clear c39
                              obtain ⟨y240, hy240⟩ : ∃ y_ : List (S61), y_ = (y239.set ((ji37) : Int).toNat (⟨(rd_T61 y239 (ji37)).f0, (rd_T61 y239 (ji37)).f1, a1, (rd_T61 y239 (ji37)).f3, (rd_T61 y239 (ji37)).f4, (rd_T61 y239 (ji37)).f5, (rd_T61 y239 (ji37)).f6, (rd_T61 y239 (ji37)).f7, (rd_T61 y239 (ji37)).f8⟩ : S61)) := ⟨_, rfl⟩
                              replace H : (some (y240, 0)) = some (r1, r2) := by first | (rw [hy240]; with_reducible exact H) | (have H2_ := (Option.bind_some _ _).symm.trans H; rw [hy240]; with_reducible exact H2_) | (have H2_ := (Option.bind_some _ _).symm.trans H; with_reducible exact H2_) | with_reducible exact H | (rw [hy240]; exact H) | exact H
                              have Ny240 := Aside0.mk hy240
                              clear hy240
                              simp only [Option.some.injEq, Prod.mk.injEq] at H
                              obtain ⟨rfl, rfl⟩ := H
                              go_wp2_with (first | ((with_reducible refine gate_callee (f := 67) rfl ?_); refine goesL_ (some 56) rfl rfl Try.func67 (by kernel_rfl) rfl #[.slice A0 l0.length c0, .int .i64 a1] rfl (by (try simp only [List.map_toArray, List.map_cons, List.map_nil]); first | done | rfl | (simp only [List.length_drop, List.length_take]; rfl)) ?_; (with_reducible refine (towncrierref04_Over.calls kj17 _ _ l0 a1 t232 _ ?side1 ?side2 A27.out).mono ?_); (case side1 => repeat (first | exact (Kd.V_reads' HO_0.out).2.2 | (with_reducible refine Kd.C_alloc ?_ _) | (with_reducible refine Kd.C_drewN ?_ _) | (with_reducible refine Kd.C_drew ?_))); (case side2 => exact (Kd.V_reads' HO_0.out).2.1); rintro e w41 ⟨v233, rfl, ho0, hb⟩; refine ⟨_, rfl, ?_⟩; have n0_ := Aside0.mk (Kd.V_elder' (by (with_reducible repeat (first | apply Kd.V_alloc | apply Kd.V_drewN | apply Kd.V_drew)); exact HO_0.out) (Kd.R_base ho0) hb); have n1_ := Aside0.mk (Kd.R_lower (Kd.R_newM (M := fun k_ => (w.heap.size ≤ k_)) ho0 (below_size (by repeat (first | (with_reducible first | exact HB.out | apply below_alloc | apply pw_below_drewN | apply below_drew1) | exact HB.out))) (fun k_ h_ => h_)) (below_size (by repeat (first | (with_reducible first | exact HB.out | apply below_alloc | apply pw_below_drewN | apply below_drew1) | exact HB.out)))); have n2_ := Aside0.mk (below_step (by repeat (first | (with_reducible first | exact HB.out | apply below_alloc | apply pw_below_drewN | apply below_drew1) | exact HB.out)) hb); clear HO_0; clear HB; have HO_0 := n0_; have HO234 := n1_; have HB := n2_; clear n0_ n1_ n2_; (try clear hb); (try clear hb2); (try clear hk); (try clear hi); (try clear ho0); obtain ⟨Ao42, co42, eo42⟩ := Kd.R_slice HO234.out; subst eo42) | ((with_reducible refine gate_callee (f := 34) rfl ?_); refine goesL_ (some 58) rfl rfl Try.func34 (by kernel_rfl) rfl #[.slice Ao42 t232.length co42, .int .i64 a2] rfl (by (try simp only [List.map_toArray, List.map_cons, List.map_nil]); first | done | rfl | (simp only [List.length_drop, List.length_take]; rfl)) ?_; (with_reducible refine (towncrierref01_Has.calls kj17 _ _ t232 a2 false _ ?side1 ?side2 A28.out).mono ?_); (case side1 => repeat (first | exact (Kd.R_reads' HO234.out).2.2 | (with_reducible refine Kd.C_alloc ?_ _) | (with_reducible refine Kd.C_drewN ?_ _) | (with_reducible refine Kd.C_drew ?_))); (case side2 => exact (Kd.R_reads' HO234.out).2.1); rintro e w' ⟨rfl, ⟨nd, rfl⟩⟩; refine ⟨_, rfl, ?_⟩; (try (rw [drewN_self w41]; generalize hq_ : World.drewN w41 _ = w41; have n0_ : Aside0 (Kd.R (Kd.int .i64) 3 w41 w.heap.size (fun k_ => (w.heap.size ≤ k_)) (.slice Ao42 t232.length co42) t232) := ⟨by rw [← hq_]; exact (by (with_reducible repeat (first | apply Kd.R_alloc | apply Kd.R_drewN | apply Kd.R_drew)); exact Kd.R_mono HO234.out (fun _ hk => hk.1))⟩; have n1_ : Aside0 (Kd.V k61 61 w41 w.heap.size (fun k_ => (P0_ k_ ∨ w.heap.size ≤ k_) ∧ some k_ ≠ (.slice Ao42 t232.length co42 : Value).ownBlock) (.slice A0 l0.length c0) l0) := ⟨by rw [← hq_]; exact (by (with_reducible repeat (first | apply Kd.V_alloc | apply Kd.V_drewN | apply Kd.V_drew)); exact HO_0.out)⟩; have n2_ : Aside0 (Below w.heap.size w w41) := ⟨by rw [← hq_]; exact (by repeat (first | (with_reducible first | exact HB.out | apply below_alloc | apply pw_below_drewN | apply below_drew1) | exact HB.out))⟩; clear HO234 HO_0 HB hq_; have HO234 := n0_; have HO_0 := n1_; have HB := n2_; clear n0_ n1_ n2_))) | ((with_reducible refine gate_callee (f := 66) rfl ?_); refine goesL_ (some 61) rfl rfl Try.func66 (by kernel_rfl) rfl #[.slice A0 l0.length c0] rfl (by (try simp only [List.map_toArray, List.map_cons, List.map_nil]); first | done | rfl | (simp only [List.length_drop, List.length_take]; rfl)) ?_; (with_reducible refine (towncrierref04_Copy.calls kj17 (fun k_ => ((P0_ k_ ∨ w.heap.size ≤ k_) ∧ some k_ ≠ (.slice Ao42 t232.length co42 : Value).ownBlock)) _ _ l0 t236 _ ?side1 A32.out).mono ?_); (case side1 => exact HO_0.out); rintro e w43 ⟨v237, rfl, ho0, hb⟩; refine ⟨_, rfl, ?_⟩; have n0_ := Aside0.mk (Kd.V_elder' (by (with_reducible repeat (first | apply Kd.V_alloc | apply Kd.V_drewN | apply Kd.V_drew)); exact HO_0.out) (Kd.N_base ho0) hb); have n1_ := Aside0.mk (Kd.R_below (by (with_reducible repeat (first | apply Kd.R_alloc | apply Kd.R_drewN | apply Kd.R_drew)); exact HO234.out) hb); have n2_ := Aside0.mk (Kd.N_lower (Kd.N_mono (ok' := fun k_ => (P0_ k_ ∨ w.heap.size ≤ k_) ∧ some k_ ≠ (.slice Ao42 t232.length co42 : Value).ownBlock) ho0 (fun k_ hk_ => ⟨Or.elim hk_ (fun hs_ => hs_.1) (fun hn_ => (.inr (Nat.le_trans (below_size (by repeat (first | (with_reducible first | exact HB.out | apply below_alloc | apply pw_below_drewN | apply below_drew1) | exact HB.out))) hn_))), Or.elim hk_ (fun hs_ => hs_.2) (fun hn_ => (Kd.fresh' (Kd.R_lt (by (with_reducible repeat (first | apply Kd.R_alloc | apply Kd.R_drewN | apply Kd.R_drew)); exact HO234.out)) k_ hn_))⟩)) (below_size (by repeat (first | (with_reducible first | exact HB.out | apply below_alloc | apply pw_below_drewN | apply below_drew1) | exact HB.out)))); have n3_ := Aside0.mk (below_step (by repeat (first | (with_reducible first | exact HB.out | apply below_alloc | apply pw_below_drewN | apply below_drew1) | exact HB.out)) hb); clear HO_0; clear HO234; clear HB; have HO_0 := n0_; have HO234 := n1_; have HO238 := n2_; have HB := n3_; clear n0_ n1_ n2_ n3_; (try clear hb); (try clear hb2); (try clear hk); (try clear hi); (try clear ho0); have p36 : 0 ≤ ((ji33) : Int) := of_decide_eq_true (by first | (with_reducible assumption) | assumption); have q36 : ((ji33) : Int) < ((t236.length : Int) : Int) := of_decide_eq_true (by first | (with_reducible assumption) | assumption); obtain ⟨go36, co36, eo36, gb36, gl36, cl36, HG36⟩ := Kd.N_form HO238.out (by omega); (first | cases eo36 | (injection eo36 with ea_ en_ ec_; (first | subst ea_ | (injection ea_ with ea_; subst ea_)); subst ec_; clear en_)); have GB36 := Aside0.mk gb36; have GG36 := Aside0.mk HG36; clear gb36 gl36 HG36; obtain ⟨ce36, hcl36, hM36, hcc36, hfr36⟩ := Kd.N_elem HO238.out z61 ((ji33) : Int) p36 q36; obtain ⟨ua36_8, uc36_8, rfl, ul36_8, ge36_8⟩ := k61_openF hM36; have hx36_0 : w43.cell? ⟨go36, ((ji33) : Int).toNat * 9, none⟩ = some (.int .i64 ((rd_T61 t236 (ji33)).f0)) := hcc36 0 _ rfl; have hx36_1 : w43.cell? ⟨go36, ((ji33) : Int).toNat * 9 + 1, none⟩ = some (.int .i64 ((rd_T61 t236 (ji33)).f1)) := hcc36 1 _ rfl; have hx36_2 : w43.cell? ⟨go36, ((ji33) : Int).toNat * 9 + 2, none⟩ = some (.int .i64 ((rd_T61 t236 (ji33)).f2)) := hcc36 2 _ rfl; have hx36_3 : w43.cell? ⟨go36, ((ji33) : Int).toNat * 9 + 3, none⟩ = some (.int .i64 ((rd_T61 t236 (ji33)).f3)) := hcc36 3 _ rfl; have hx36_4 : w43.cell? ⟨go36, ((ji33) : Int).toNat * 9 + 4, none⟩ = some (.int .i64 ((rd_T61 t236 (ji33)).f4)) := hcc36 4 _ rfl; have hx36_5 : w43.cell? ⟨go36, ((ji33) : Int).toNat * 9 + 5, none⟩ = some (.bool ((rd_T61 t236 (ji33)).f5)) := hcc36 5 _ rfl; have hx36_6 : w43.cell? ⟨go36, ((ji33) : Int).toNat * 9 + 6, none⟩ = some (.string ((rd_T61 t236 (ji33)).f6)) := hcc36 6 _ rfl; have hx36_7 : w43.cell? ⟨go36, ((ji33) : Int).toNat * 9 + 7, none⟩ = some (.string ((rd_T61 t236 (ji33)).f7)) := hcc36 7 _ rfl; have hx36_8 : w43.cell? ⟨go36, ((ji33) : Int).toNat * 9 + 8, none⟩ = some (.slice ua36_8 ((rd_T61 t236 (ji33)).f8).length uc36_8) := hcc36 8 _ rfl; have hf36_0 : w43.frozen? ⟨go36, ((ji33) : Int).toNat * 9, none⟩ = false := hfr36 0; have hf36_1 : w43.frozen? ⟨go36, ((ji33) : Int).toNat * 9 + 1, none⟩ = false := hfr36 1; have hf36_2 : w43.frozen? ⟨go36, ((ji33) : Int).toNat * 9 + 2, none⟩ = false := hfr36 2; have hf36_3 : w43.frozen? ⟨go36, ((ji33) : Int).toNat * 9 + 3, none⟩ = false := hfr36 3; have hf36_4 : w43.frozen? ⟨go36, ((ji33) : Int).toNat * 9 + 4, none⟩ = false := hfr36 4; have hf36_5 : w43.frozen? ⟨go36, ((ji33) : Int).toNat * 9 + 5, none⟩ = false := hfr36 5; have hf36_6 : w43.frozen? ⟨go36, ((ji33) : Int).toNat * 9 + 6, none⟩ = false := hfr36 6; have hf36_7 : w43.frozen? ⟨go36, ((ji33) : Int).toNat * 9 + 7, none⟩ = false := hfr36 7; have hf36_8 : w43.frozen? ⟨go36, ((ji33) : Int).toNat * 9 + 8, none⟩ = false := hfr36 8; clear hcl36 hcc36 hfr36 hM36; replace p36 := eq_true p36; replace q36 := eq_true q36; have HX44 := Aside0.mk (show Kd.N k61 61 w43 w.heap.size (fun k_ => (P0_ k_ ∨ w.heap.size ≤ k_) ∧ some k_ ≠ (.slice Ao42 t232.length co42 : Value).ownBlock) (.slice (some ⟨go36, 0, none⟩) t236.length co36) t236 from (by (with_reducible repeat (first | apply Kd.N_alloc | apply Kd.N_drewN | apply Kd.N_drew)); exact HO238.out)); obtain ⟨ce44, hcl44, hM44, hcc44, hfr44⟩ := Kd.N_elem HX44.out z61 ((ji33) : Int) (of_decide_eq_true (by first | (with_reducible assumption) | assumption)) (by have h_ : ((ji33) : Int) < ((t236.length : Int) : Int) := of_decide_eq_true (by first | (with_reducible assumption) | assumption); first | exact h_ | (have e_ := (Kd.N_reads' HO238.out).1; omega) | simpa using h_); obtain ⟨ua44_8, uc44_8, rfl, ul44_8, ge44_8⟩ := k61_openF hM44; have HP44 := Kd.N_seg HX44.out ((ji33) : Int) (of_decide_eq_true (by first | (with_reducible assumption) | assumption)) (by have h_ : ((ji33) : Int) < ((t236.length : Int) : Int) := of_decide_eq_true (by first | (with_reducible assumption) | assumption); first | exact h_ | (have e_ := (Kd.N_reads' HO238.out).1; omega) | simpa using h_) (seg := [.int .i64 a2]) (j := 3) hcl44 hcc44 (show 4 ≤ 9 from by decide) (x' := (⟨(rd_T61 t236 (ji33)).f0, (rd_T61 t236 (ji33)).f1, (rd_T61 t236 (ji33)).f2, a2, (rd_T61 t236 (ji33)).f4, (rd_T61 t236 (ji33)).f5, (rd_T61 t236 (ji33)).f6, (rd_T61 t236 (ji33)).f7, (rd_T61 t236 (ji33)).f8⟩ : S61)) (k61_mkF _ _ (⟨(rd_T61 t236 (ji33)).f0, (rd_T61 t236 (ji33)).f1, (rd_T61 t236 (ji33)).f2, a2, (rd_T61 t236 (ji33)).f4, (rd_T61 t236 (ji33)).f5, (rd_T61 t236 (ji33)).f6, (rd_T61 t236 (ji33)).f7, (rd_T61 t236 (ji33)).f8⟩ : S61) ul44_8 ge44_8) (fun _ hk => hk); have hx44_3 := hcc44 3 _ rfl; (try simp only [show (k61).sz = 9 from rfl, Nat.mul_one, Nat.add_zero] at hx44_3); have hf44_3 := hfr44 3; (try simp only [show (k61).sz = 9 from rfl, Nat.mul_one, Nat.add_zero] at hf44_3); clear hcl44 hcc44 hfr44 hM44) | ((with_reducible refine gate_store (t := 3) (p := 67) rfl ?_); refine store_event (t := 3) (p := 67) (v := ?vo_w45) (w1 := (w43.setCell ⟨go36, ((ji33) : Int).toNat * 9 + 3, none⟩ (.int .i64 a2))) ?hg ?ho ?hn ?hr ?_; (case ho => rfl); (case hg => rfl); (case hn => rfl); (case hr => first | (go_simp; done) | (go_simp; rfl)); intro w45 hw; have hg : w43.grownBy w45 (some go36) := (by rw [hw]; exact HP44.2); have hp_ : Kd.N k61 61 w45 w.heap.size (fun k_ => (P0_ k_ ∨ w.heap.size ≤ k_) ∧ some k_ ≠ (.slice Ao42 t232.length co42 : Value).ownBlock) (.slice (some ⟨go36, 0, none⟩) t236.length co36) y239 := (by rw [hw, Ny239.out]; exact HP44.1); clear HP44; have n0_ := Aside0.mk (Kd.V_afterv (v := (.slice (some ⟨go36, 0, none⟩) t236.length co36)) (v1 := (.slice (some ⟨go36, 0, none⟩) t236.length co36)) (ok := (fun k_ => (P0_ k_ ∨ w.heap.size ≤ k_) ∧ some k_ ≠ (.slice Ao42 t232.length co42 : Value).ownBlock)) (by (with_reducible repeat (first | apply Kd.V_alloc | apply Kd.V_drewN | apply Kd.V_drew)); exact HO_0.out) hg (.inl rfl)); have n1_ := Aside0.mk (Kd.R_over' (v := (.slice (some ⟨go36, 0, none⟩) t236.length co36)) (by (with_reducible repeat (first | apply Kd.R_alloc | apply Kd.R_drewN | apply Kd.R_drew)); exact HO234.out) (Kd.N_typed HO238.out) (by decide) hg); have n2_ := Aside0.mk (hp_); have n3_ := Aside0.mk ((by rw [hw]; exact below_set (HB.out) GB36.out : Below w.heap.size w w45)); clear HO_0; clear HO234; clear HO238; clear HB; have HO_0 := n0_; have HO234 := n1_; have HO238 := n2_; have HB := n3_; clear n0_ n1_ n2_ n3_; clear hg hw hp_; have p40 : 0 ≤ ((ji37) : Int) := of_decide_eq_true (by first | (with_reducible assumption) | assumption); have q40 : ((ji37) : Int) < ((t236.length : Int) : Int) := of_decide_eq_true (by first | (with_reducible assumption) | assumption); obtain ⟨ce40, hcl40, hM40, hcc40, hfr40⟩ := Kd.N_elem HO238.out z61 ((ji37) : Int) p40 q40; obtain ⟨ua40_8, uc40_8, rfl, ul40_8, ge40_8⟩ := k61_openF hM40; have hx40_0 : w45.cell? ⟨go36, ((ji37) : Int).toNat * 9, none⟩ = some (.int .i64 ((rd_T61 y239 (ji37)).f0)) := hcc40 0 _ rfl; have hx40_1 : w45.cell? ⟨go36, ((ji37) : Int).toNat * 9 + 1, none⟩ = some (.int .i64 ((rd_T61 y239 (ji37)).f1)) := hcc40 1 _ rfl; have hx40_2 : w45.cell? ⟨go36, ((ji37) : Int).toNat * 9 + 2, none⟩ = some (.int .i64 ((rd_T61 y239 (ji37)).f2)) := hcc40 2 _ rfl; have hx40_3 : w45.cell? ⟨go36, ((ji37) : Int).toNat * 9 + 3, none⟩ = some (.int .i64 ((rd_T61 y239 (ji37)).f3)) := hcc40 3 _ rfl; have hx40_4 : w45.cell? ⟨go36, ((ji37) : Int).toNat * 9 + 4, none⟩ = some (.int .i64 ((rd_T61 y239 (ji37)).f4)) := hcc40 4 _ rfl; have hx40_5 : w45.cell? ⟨go36, ((ji37) : Int).toNat * 9 + 5, none⟩ = some (.bool ((rd_T61 y239 (ji37)).f5)) := hcc40 5 _ rfl; have hx40_6 : w45.cell? ⟨go36, ((ji37) : Int).toNat * 9 + 6, none⟩ = some (.string ((rd_T61 y239 (ji37)).f6)) := hcc40 6 _ rfl; have hx40_7 : w45.cell? ⟨go36, ((ji37) : Int).toNat * 9 + 7, none⟩ = some (.string ((rd_T61 y239 (ji37)).f7)) := hcc40 7 _ rfl; have hx40_8 : w45.cell? ⟨go36, ((ji37) : Int).toNat * 9 + 8, none⟩ = some (.slice ua40_8 ((rd_T61 y239 (ji37)).f8).length uc40_8) := hcc40 8 _ rfl; have hf40_0 : w45.frozen? ⟨go36, ((ji37) : Int).toNat * 9, none⟩ = false := hfr40 0; have hf40_1 : w45.frozen? ⟨go36, ((ji37) : Int).toNat * 9 + 1, none⟩ = false := hfr40 1; have hf40_2 : w45.frozen? ⟨go36, ((ji37) : Int).toNat * 9 + 2, none⟩ = false := hfr40 2; have hf40_3 : w45.frozen? ⟨go36, ((ji37) : Int).toNat * 9 + 3, none⟩ = false := hfr40 3; have hf40_4 : w45.frozen? ⟨go36, ((ji37) : Int).toNat * 9 + 4, none⟩ = false := hfr40 4; have hf40_5 : w45.frozen? ⟨go36, ((ji37) : Int).toNat * 9 + 5, none⟩ = false := hfr40 5; have hf40_6 : w45.frozen? ⟨go36, ((ji37) : Int).toNat * 9 + 6, none⟩ = false := hfr40 6; have hf40_7 : w45.frozen? ⟨go36, ((ji37) : Int).toNat * 9 + 7, none⟩ = false := hfr40 7; have hf40_8 : w45.frozen? ⟨go36, ((ji37) : Int).toNat * 9 + 8, none⟩ = false := hfr40 8; clear hcl40 hcc40 hfr40 hM40; replace p40 := eq_true p40; replace q40 := eq_true q40; have HX46 := Aside0.mk (show Kd.N k61 61 w45 w.heap.size (fun k_ => (P0_ k_ ∨ w.heap.size ≤ k_) ∧ some k_ ≠ (.slice Ao42 t232.length co42 : Value).ownBlock) (.slice (some ⟨go36, 0, none⟩) t236.length co36) y239 from (by (with_reducible repeat (first | apply Kd.N_alloc | apply Kd.N_drewN | apply Kd.N_drew)); exact HO238.out)); obtain ⟨ce46, hcl46, hM46, hcc46, hfr46⟩ := Kd.N_elem HX46.out z61 ((ji37) : Int) (of_decide_eq_true (by first | (with_reducible assumption) | assumption)) (by have h_ : ((ji37) : Int) < ((t236.length : Int) : Int) := of_decide_eq_true (by first | (with_reducible assumption) | assumption); first | exact h_ | (have e_ := (Kd.N_reads' HO238.out).1; omega) | simpa using h_); obtain ⟨ua46_8, uc46_8, rfl, ul46_8, ge46_8⟩ := k61_openF hM46; have HP46 := Kd.N_seg HX46.out ((ji37) : Int) (of_decide_eq_true (by first | (with_reducible assumption) | assumption)) (by have h_ : ((ji37) : Int) < ((t236.length : Int) : Int) := of_decide_eq_true (by first | (with_reducible assumption) | assumption); first | exact h_ | (have e_ := (Kd.N_reads' HO238.out).1; omega) | simpa using h_) (seg := [.int .i64 a1]) (j := 2) hcl46 hcc46 (show 3 ≤ 9 from by decide) (x' := (⟨(rd_T61 y239 (ji37)).f0, (rd_T61 y239 (ji37)).f1, a1, (rd_T61 y239 (ji37)).f3, (rd_T61 y239 (ji37)).f4, (rd_T61 y239 (ji37)).f5, (rd_T61 y239 (ji37)).f6, (rd_T61 y239 (ji37)).f7, (rd_T61 y239 (ji37)).f8⟩ : S61)) (k61_mkF _ _ (⟨(rd_T61 y239 (ji37)).f0, (rd_T61 y239 (ji37)).f1, a1, (rd_T61 y239 (ji37)).f3, (rd_T61 y239 (ji37)).f4, (rd_T61 y239 (ji37)).f5, (rd_T61 y239 (ji37)).f6, (rd_T61 y239 (ji37)).f7, (rd_T61 y239 (ji37)).f8⟩ : S61) ul46_8 ge46_8) (fun _ hk => hk); have hx46_2 := hcc46 2 _ rfl; (try simp only [show (k61).sz = 9 from rfl, Nat.mul_one, Nat.add_zero] at hx46_2); have hf46_2 := hfr46 2; (try simp only [show (k61).sz = 9 from rfl, Nat.mul_one, Nat.add_zero] at hf46_2); clear hcl46 hcc46 hfr46 hM46) | ((with_reducible refine gate_store (t := 3) (p := 73) rfl ?_); refine store_event (t := 3) (p := 73) (v := ?vo_w47) (w1 := (w45.setCell ⟨go36, ((ji37) : Int).toNat * 9 + 2, none⟩ (.int .i64 a1))) ?hg ?ho ?hn ?hr ?_; (case ho => rfl); (case hg => rfl); (case hn => rfl); (case hr => first | (go_simp; done) | (go_simp; rfl)); intro w47 hw; have hg : w45.grownBy w47 (some go36) := (by rw [hw]; exact HP46.2); have hp_ : Kd.N k61 61 w47 w.heap.size (fun k_ => (P0_ k_ ∨ w.heap.size ≤ k_) ∧ some k_ ≠ (.slice Ao42 t232.length co42 : Value).ownBlock) (.slice (some ⟨go36, 0, none⟩) t236.length co36) y240 := (by rw [hw, Ny240.out]; exact HP46.1); clear HP46; have n0_ := Aside0.mk (Kd.V_afterv (v := (.slice (some ⟨go36, 0, none⟩) t236.length co36)) (v1 := (.slice (some ⟨go36, 0, none⟩) t236.length co36)) (ok := (fun k_ => (P0_ k_ ∨ w.heap.size ≤ k_) ∧ some k_ ≠ (.slice Ao42 t232.length co42 : Value).ownBlock)) (by (with_reducible repeat (first | apply Kd.V_alloc | apply Kd.V_drewN | apply Kd.V_drew)); exact HO_0.out) hg (.inl rfl)); have n1_ := Aside0.mk (Kd.R_over' (v := (.slice (some ⟨go36, 0, none⟩) t236.length co36)) (by (with_reducible repeat (first | apply Kd.R_alloc | apply Kd.R_drewN | apply Kd.R_drew)); exact HO234.out) (Kd.N_typed HO238.out) (by decide) hg); have n2_ := Aside0.mk (hp_); have n3_ := Aside0.mk ((by rw [hw]; exact below_set (HB.out) GB36.out : Below w.heap.size w w47)); clear HO_0; clear HO234; clear HO238; clear HB; have HO_0 := n0_; have HO234 := n1_; have HO238 := n2_; have HB := n3_; clear n0_ n1_ n2_ n3_; clear hg hw hp_))
                              go_ret2
                              exact ⟨_, by first | rfl | (simp [errW_none, errW_some] <;> rfl) | (simp only [← hji33, ← hji37]; first | rfl | (simp [errW_none, errW_some] <;> rfl)) | (simp [*, errW_none, errW_some] <;> rfl), Kd.N_V (by (with_reducible repeat (first | apply Kd.N_alloc | apply Kd.N_drewN | apply Kd.N_drew)); exact Kd.N_mono HO238.out (fun _ hk => hk.1)), by repeat (first | (with_reducible first | exact HB.out | apply below_alloc | apply pw_below_drewN | apply below_drew1) | exact HB.out)⟩
                            · rw [if_neg c39] at H
                              exact absurd H (by simp)
                          · rw [if_neg c38] at H
                            exact absurd H (by simp)
                        · rw [if_neg c35] at H
                          exact absurd H (by simp)
                      · rw [if_neg c34] at H
                        exact absurd H (by simp)

/-! ### towncrierref04_Name: function 56 -/
def towncrierref04_Name.j0 : Nat → List (S61) → Int → ByteArray → Bool → Option ((List (S61)) × Int)
  | 0, _, _, _, _ => none
  | k + 1, x0, x1, x2, x17 => if x17 = true then (some (x0, 1)) else (if 0 ≤ (wrap64 (x1 - 1)) then (if (wrap64 (x1 - 1)) < (x0.length : Int) then (if ((rd_T61 x0 (wrap64 (x1 - 1))).f5 = true) then ((towncrierref04_Copy.f k x0).bind fun t244 => (if (wrap64 (x1 - 1)) < (t244.length : Int) then (some ((t244.set ((wrap64 (x1 - 1)) : Int).toNat (⟨(rd_T61 t244 (wrap64 (x1 - 1))).f0, (rd_T61 t244 (wrap64 (x1 - 1))).f1, (rd_T61 t244 (wrap64 (x1 - 1))).f2, (rd_T61 t244 (wrap64 (x1 - 1))).f3, (rd_T61 t244 (wrap64 (x1 - 1))).f4, (rd_T61 t244 (wrap64 (x1 - 1))).f5, x2, (rd_T61 t244 (wrap64 (x1 - 1))).f7, (rd_T61 t244 (wrap64 (x1 - 1))).f8⟩ : S61)), 0)) else (none))) else (some (x0, 2))) else (none)) else (none))
def towncrierref04_Name.f (k : Nat) (l0 : List (S61)) (a1 : Int) (a2 : ByteArray) : Option ((List (S61)) × Int) := (towncrierref04_There.f l0 a1).bind fun t241 => (if t241 = true then ((towncrierref04_named.f k a2).bind fun t242 => (towncrierref04_Name.j0 k l0 a1 a2 (!t242))) else (towncrierref04_Name.j0 k l0 a1 a2 true))
theorem towncrierref04_Name.mono_l : ∀ k, (∀ y0 y1 y2 y3, LeO (towncrierref04_Name.j0 k y0 y1 y2 y3) (towncrierref04_Name.j0 (k + 1) y0 y1 y2 y3))
  | 0 => fun _ _ _ _ r h => by simp [towncrierref04_Name.j0] at h
  | k + 1 => by
    have ih0 := towncrierref04_Name.mono_l k
    · intro y0 y1 y2 y3
      unfold towncrierref04_Name.j0
      repeat' first
      | (with_reducible exact ih0 _ _ _ _)
      | (with_reducible exact towncrierref04_Copy.mono _ _)
      | (with_reducible exact towncrierref04_named.mono _ _)
      | (with_reducible exact LeO.refl _)
      | (with_reducible exact LeO.none _)
      | (with_reducible refine LeO.ite ?_ ?_)
      | (with_reducible refine LeO.bind ?_ (fun _ => ?_))
      | exact ih0 _ _ _ _
      | exact towncrierref04_Copy.mono _ _
      | exact towncrierref04_named.mono _ _
      | exact LeO.none _
      | refine LeO.ite ?_ ?_
      | refine LeO.bind ?_ (fun _ => ?_)
theorem towncrierref04_Name.mono : ∀ a0 a1 a2 k, LeO (towncrierref04_Name.f k a0 a1 a2) (towncrierref04_Name.f (k + 1) a0 a1 a2) := by
  intro a0 a1 a2 k
  have ih0 := towncrierref04_Name.mono_l k
  unfold towncrierref04_Name.f
  repeat' first
      | (with_reducible exact ih0 _ _ _ _)
      | (with_reducible exact towncrierref04_Copy.mono _ _)
      | (with_reducible exact towncrierref04_named.mono _ _)
      | (with_reducible exact LeO.refl _)
      | (with_reducible exact LeO.none _)
      | (with_reducible refine LeO.ite ?_ ?_)
      | (with_reducible refine LeO.bind ?_ (fun _ => ?_))
      | exact ih0 _ _ _ _
      | exact towncrierref04_Copy.mono _ _
      | exact towncrierref04_named.mono _ _
      | exact LeO.none _
      | refine LeO.ite ?_ ?_
      | refine LeO.bind ?_ (fun _ => ?_)
set_option maxHeartbeats 8000000 in
set_option maxRecDepth 100000 in
theorem towncrierref04_Name.calls (k : Nat) (P0_ : Nat → Prop) (A0 : Option Addr) (c0 : Nat) (l0 : List (S61)) (a1 : Int) (a2 : ByteArray) (r1 : List (S61)) (r2 : Int) (w : World) (hs0 : Kd.V k61 61 w w.heap.size (fun k_ => P0_ k_) (.slice A0 l0.length c0) l0) (h : towncrierref04_Name.f k l0 a1 a2 = some (r1, r2)) :
    Calls Try.prog 56 #[.slice A0 l0.length c0, .int .i64 a1, .string a2] w fun e w' => ∃ v0_ : Value, e = .returned (.tuple #[v0_, .int .i64 r2]) ∧ Kd.V k61 61 w' w.heap.size (fun k_ => (P0_ k_ ∨ w.heap.size ≤ k_)) v0_ r1 ∧ Below w.heap.size w w' := by
  have HO0 := Aside0.mk (show Kd.V k61 61 w w.heap.size (fun k_ => (P0_ k_ ∨ w.heap.size ≤ k_)) (.slice A0 l0.length c0) l0 from Kd.V_mono hs0 (fun k_ hk => .inl hk))
  have HB := Aside0.mk (Below.refl w.heap.size w)
  have H : ((towncrierref04_There.f l0 a1).bind fun t241 => (if t241 = true then ((towncrierref04_named.f k a2).bind fun t242 => (towncrierref04_Name.j0 k l0 a1 a2 (!t242))) else (towncrierref04_Name.j0 k l0 a1 a2 true))) = some (r1, r2) := h
  clear h
  have HC4 := Aside0.mk H
  clear H
  go_enter Try.func56, Try.ntmps56
  go_upto_region 1 with (fail)
  go_cut [17] (fun v17 wc => ∃ (kq : Nat) (x17_3 : Bool), v17 = .bool x17_3 ∧ Aside0 (towncrierref04_Name.j0 kq l0 a1 a2 x17_3 = some (r1, r2)) ∧ Aside0 (kq ≤ k) ∧ Aside0 (Kd.V k61 61 wc w.heap.size (fun k_ => (P0_ k_ ∨ w.heap.size ≤ k_)) (.slice A0 l0.length c0) l0) ∧ Aside0 (Below w.heap.size w wc))
  case first =>
    have H := HC4.out
    clear HC4
    replace H := Option.bind_eq_some_iff.mp H
    obtain ⟨t241, A50, H⟩ := H
    replace H : (if t241 = true then ((towncrierref04_named.f k a2).bind fun t242 => (towncrierref04_Name.j0 k l0 a1 a2 (!t242))) else (towncrierref04_Name.j0 k l0 a1 a2 true)) = some (r1, r2) := H
    have A5 := Aside0.mk A50
    clear A50
    by_cases c6 : t241 = true
    · subst c6
      have H1 : ((towncrierref04_named.f k a2).bind fun t242 => (towncrierref04_Name.j0 k l0 a1 a2 (!t242))) = some (r1, r2) := by rw [if_pos rfl] at H; exact H
      clear H
      have H := H1
      clear H1
      replace H := Option.bind_eq_some_iff.mp H
      obtain ⟨t242, A70, H⟩ := H
      replace H : (towncrierref04_Name.j0 k l0 a1 a2 (!t242)) = some (r1, r2) := H
      have A7 := Aside0.mk A70
      clear A70
      have H' := Aside0.mk H
      clear H
      go_wp2_with (first | ((with_reducible refine gate_callee (f := 49) rfl ?_); refine goesL_ (some 11) rfl rfl Try.func49 (by kernel_rfl) rfl #[.slice A0 l0.length c0, .int .i64 a1] rfl (by (try simp only [List.map_toArray, List.map_cons, List.map_nil]); first | done | rfl | (simp only [List.length_drop, List.length_take]; rfl)) ?_; (with_reducible refine (towncrierref04_There.calls _ _ l0 a1 true _ ?side1 ?side2 A5.out).mono ?_); (case side1 => repeat (first | exact (Kd.V_reads' HO0.out).2.2 | (with_reducible refine Kd.C_alloc ?_ _) | (with_reducible refine Kd.C_drewN ?_ _) | (with_reducible refine Kd.C_drew ?_))); (case side2 => exact (Kd.V_reads' HO0.out).2.1); rintro e w' ⟨rfl, ⟨nd, rfl⟩⟩; refine ⟨_, rfl, ?_⟩) | (go_at_call 65; (with_reducible refine (towncrierref04_named.calls k a2 t242 _ A7.out).mono ?_); rintro e w' ⟨rfl, ⟨nd, rfl⟩⟩))
      go_meet
      case rel => exact ⟨_, (!t242), (by first | rfl | (simp; done) | (simp [*]; done)), H', ⟨by first | omega | exact Nat.le_refl _⟩, ⟨by (with_reducible repeat (first | apply Kd.V_alloc | apply Kd.V_drewN | apply Kd.V_drew)); exact HO0.out⟩, ⟨by repeat (first | (with_reducible first | exact HB.out | apply below_alloc | apply pw_below_drewN | apply below_drew1) | exact HB.out)⟩⟩
    · replace c6 := Bool.eq_false_iff.mpr c6
      subst c6
      have H1 : (towncrierref04_Name.j0 k l0 a1 a2 true) = some (r1, r2) := by rw [if_neg (show ¬ (false = true) by decide)] at H; exact H
      clear H
      have H := H1
      clear H1
      have H' := Aside0.mk H
      clear H
      go_wp2_with (first | ((with_reducible refine gate_callee (f := 49) rfl ?_); refine goesL_ (some 11) rfl rfl Try.func49 (by kernel_rfl) rfl #[.slice A0 l0.length c0, .int .i64 a1] rfl (by (try simp only [List.map_toArray, List.map_cons, List.map_nil]); first | done | rfl | (simp only [List.length_drop, List.length_take]; rfl)) ?_; (with_reducible refine (towncrierref04_There.calls _ _ l0 a1 false _ ?side1 ?side2 A5.out).mono ?_); (case side1 => repeat (first | exact (Kd.V_reads' HO0.out).2.2 | (with_reducible refine Kd.C_alloc ?_ _) | (with_reducible refine Kd.C_drewN ?_ _) | (with_reducible refine Kd.C_drew ?_))); (case side2 => exact (Kd.V_reads' HO0.out).2.1); rintro e w' ⟨rfl, ⟨nd, rfl⟩⟩; refine ⟨_, rfl, ?_⟩))
      go_meet
      case rel => exact ⟨_, (true), (by first | rfl | (simp; done) | (simp [*]; done)), H', ⟨by first | omega | exact Nat.le_refl _⟩, ⟨by (with_reducible repeat (first | apply Kd.V_alloc | apply Kd.V_drewN | apply Kd.V_drew)); exact HO0.out⟩, ⟨by repeat (first | (with_reducible first | exact HB.out | apply below_alloc | apply pw_below_drewN | apply below_drew1) | exact HB.out)⟩⟩
  case rest =>
    clear HC4
    try clear p2
    try clear c4
    try clear c5
    try clear c6
    obtain ⟨kq, x17_3, rfl, HA, HJ3, HO_0, HB⟩ := hcut
    cases kq with
    | zero => exact absurd HA.out (by simp [towncrierref04_Name.j0])
    | succ kj3 =>
      have H := HA.out
      clear HA
      simp only [towncrierref04_Name.j0] at H
      by_cases c8 : x17_3 = true
      · subst c8
        have H1 : (some (l0, 1)) = some (r1, r2) := by rw [if_pos rfl] at H; exact H
        clear H
        have H := H1
        clear H1
        simp only [Option.some.injEq, Prod.mk.injEq] at H
        obtain ⟨rfl, rfl⟩ := H
        go_wp2
        go_ret2
        exact ⟨_, by first | rfl | (simp [errW_none, errW_some] <;> rfl) | (simp [*, errW_none, errW_some] <;> rfl), by (with_reducible repeat (first | apply Kd.V_alloc | apply Kd.V_drewN | apply Kd.V_drew)); exact HO_0.out, by repeat (first | (with_reducible first | exact HB.out | apply below_alloc | apply pw_below_drewN | apply below_drew1) | exact HB.out)⟩
      · replace c8 := Bool.eq_false_iff.mpr c8
        subst c8
        have H1 : (if 0 ≤ (wrap64 (a1 - 1)) then (if (wrap64 (a1 - 1)) < (l0.length : Int) then (if ((rd_T61 l0 (wrap64 (a1 - 1))).f5 = true) then ((towncrierref04_Copy.f kj3 l0).bind fun t244 => (if (wrap64 (a1 - 1)) < (t244.length : Int) then (some ((t244.set ((wrap64 (a1 - 1)) : Int).toNat (⟨(rd_T61 t244 (wrap64 (a1 - 1))).f0, (rd_T61 t244 (wrap64 (a1 - 1))).f1, (rd_T61 t244 (wrap64 (a1 - 1))).f2, (rd_T61 t244 (wrap64 (a1 - 1))).f3, (rd_T61 t244 (wrap64 (a1 - 1))).f4, (rd_T61 t244 (wrap64 (a1 - 1))).f5, a2, (rd_T61 t244 (wrap64 (a1 - 1))).f7, (rd_T61 t244 (wrap64 (a1 - 1))).f8⟩ : S61)), 0)) else (none))) else (some (l0, 2))) else (none)) else (none)) = some (r1, r2) := by rw [if_neg (show ¬ (false = true) by decide)] at H; exact H
        clear H
        have H := H1
        clear H1
        obtain ⟨ji9, hji9⟩ : ∃ j_ : Int, (wrap64 (a1 - 1)) = j_ := ⟨_, rfl⟩
        replace H : (if 0 ≤ (ji9) then (if (ji9) < (l0.length : Int) then (if ((rd_T61 l0 (ji9)).f5 = true) then ((towncrierref04_Copy.f kj3 l0).bind fun t244 => (if (ji9) < (t244.length : Int) then (some ((t244.set ((ji9) : Int).toNat (⟨(rd_T61 t244 (ji9)).f0, (rd_T61 t244 (ji9)).f1, (rd_T61 t244 (ji9)).f2, (rd_T61 t244 (ji9)).f3, (rd_T61 t244 (ji9)).f4, (rd_T61 t244 (ji9)).f5, a2, (rd_T61 t244 (ji9)).f7, (rd_T61 t244 (ji9)).f8⟩ : S61)), 0)) else (none))) else (some (l0, 2))) else (none)) else (none)) = some (r1, r2) := by first | (rw [hji9] at H; exact H) | (simp only [hji9] at H ⊢; exact H)
        have hji9w : (IntKind.i64.wrap (a1 - 1)) = ji9 := (i64_w _).trans hji9
        by_cases c10 : 0 ≤ (ji9)
        · rw [if_pos c10] at H
          have c10b0 : decide (0 ≤ (ji9)) = true := decide_eq_true c10
          clear c10
          by_cases c11 : (ji9) < (l0.length : Int)
          · rw [if_pos c11] at H
            have c11b0 : decide ((ji9) < (l0.length : Int)) = true := decide_eq_true c11
            clear c11
            obtain ⟨bq12, hbq12⟩ : ∃ b_ : Bool, b_ = ((rd_T61 l0 (ji9)).f5) := ⟨_, rfl⟩
            replace H : (if (bq12 = true) then ((towncrierref04_Copy.f kj3 l0).bind fun t244 => (if (ji9) < (t244.length : Int) then (some ((t244.set ((ji9) : Int).toNat (⟨(rd_T61 t244 (ji9)).f0, (rd_T61 t244 (ji9)).f1, (rd_T61 t244 (ji9)).f2, (rd_T61 t244 (ji9)).f3, (rd_T61 t244 (ji9)).f4, (rd_T61 t244 (ji9)).f5, a2, (rd_T61 t244 (ji9)).f7, (rd_T61 t244 (ji9)).f8⟩ : S61)), 0)) else (none))) else (some (l0, 2))) = some (r1, r2) := by rw [← hbq12] at H; exact H
            have Nbq12 := Aside0.mk hbq12
            clear hbq12
            by_cases c13 : (bq12 = true)
            · subst c13
              have H1 : ((towncrierref04_Copy.f kj3 l0).bind fun t244 => (if (ji9) < (t244.length : Int) then (some ((t244.set ((ji9) : Int).toNat (⟨(rd_T61 t244 (ji9)).f0, (rd_T61 t244 (ji9)).f1, (rd_T61 t244 (ji9)).f2, (rd_T61 t244 (ji9)).f3, (rd_T61 t244 (ji9)).f4, (rd_T61 t244 (ji9)).f5, a2, (rd_T61 t244 (ji9)).f7, (rd_T61 t244 (ji9)).f8⟩ : S61)), 0)) else (none))) = some (r1, r2) := by rw [if_pos rfl] at H; exact H
              clear H
              have H := H1
              clear H1
              replace H := Option.bind_eq_some_iff.mp H
              obtain ⟨t244, A140, H⟩ := H
              replace H : (if (ji9) < (t244.length : Int) then (some ((t244.set ((ji9) : Int).toNat (⟨(rd_T61 t244 (ji9)).f0, (rd_T61 t244 (ji9)).f1, (rd_T61 t244 (ji9)).f2, (rd_T61 t244 (ji9)).f3, (rd_T61 t244 (ji9)).f4, (rd_T61 t244 (ji9)).f5, a2, (rd_T61 t244 (ji9)).f7, (rd_T61 t244 (ji9)).f8⟩ : S61)), 0)) else (none)) = some (r1, r2) := H
              have A14 := Aside0.mk A140
              clear A140
              by_cases c15 : (ji9) < (t244.length : Int)
              · rw [if_pos c15] at H
                have c15b0 : decide ((ji9) < (t244.length : Int)) = true := decide_eq_true c15
                clear c15
                obtain ⟨y247, hy247⟩ : ∃ y_ : List (S61), y_ = (t244.set ((ji9) : Int).toNat (⟨(rd_T61 t244 (ji9)).f0, (rd_T61 t244 (ji9)).f1, (rd_T61 t244 (ji9)).f2, (rd_T61 t244 (ji9)).f3, (rd_T61 t244 (ji9)).f4, (rd_T61 t244 (ji9)).f5, a2, (rd_T61 t244 (ji9)).f7, (rd_T61 t244 (ji9)).f8⟩ : S61)) := ⟨_, rfl⟩
                replace H : (some (y247, 0)) = some (r1, r2) := by first | (rw [hy247]; with_reducible exact H) | (have H2_ := (Option.bind_some _ _).symm.trans H; rw [hy247]; with_reducible exact H2_) | (have H2_ := (Option.bind_some _ _).symm.trans H; with_reducible exact H2_) | with_reducible exact H | (rw [hy247]; exact H) | exact H
                have Ny247 := Aside0.mk hy247
                clear hy247
                simp only [Option.some.injEq, Prod.mk.injEq] at H
                obtain ⟨rfl, rfl⟩ := H
                have p243 : 0 ≤ ((ji9) : Int) := of_decide_eq_true (by first | (with_reducible assumption) | assumption)
                have q243 : (ji9) < (l0.length : Int) := of_decide_eq_true (by first | (with_reducible assumption) | assumption)
                obtain ⟨ad243, A243_8, c243_8, e243, hx243_0, hx243_1, hx243_2, hx243_3, hx243_4, hx243_5, hx243_6, hx243_7, hx243_8, hl243_8, hi243_8⟩ := at_T61 (Kd.V_reads' HO_0.out).2.2 (ji9) p243 q243
                (try rw [← Nbq12.out] at hx243_5)
                cases e243
                obtain ⟨ce243, hce243, hMe243, hcc243⟩ := Kd.V_get HO_0.out z61 (ji9) p243 (by first | exact q243 | exact of_decide_eq_true (by first | (with_reducible assumption) | assumption) | (have e_ := (Kd.V_reads' HO_0.out).1; omega))
                obtain ⟨ua243_8, uc243_8, rfl, ul243_8, ge243_8⟩ := k61_openF hMe243
                have hv243_8 := hcc243 8 _ rfl
                rw [add_field _ _ 8 (by omega)] at hv243_8
                replace hv243_8 := Option.some.inj (hv243_8.symm.trans hx243_8)
                injection hv243_8 with hva_ hvn_ hvc_
                rw [hva_] at ge243_8
                rw [hvc_] at ul243_8
                have HL243_8 := Aside0.mk (show Kd.V (Kd.int .i64) 3 _ w.heap.size _ _ ((rd_T61 l0 (ji9)).f8) from Kd.V_mk ul243_8 ge243_8)
                clear hva_ hvn_ hvc_ ge243_8 ul243_8
                clear hcc243 hce243
                have HR243_8 := Aside0.mk hi243_8
                have HC243_8 := Aside0.mk hl243_8
                clear hi243_8 hl243_8
                replace p243 := eq_true p243
                replace q243 := eq_true q243
                go_wp2_with (first | ((with_reducible refine gate_callee (f := 66) rfl ?_); refine goesL_ (some 28) rfl rfl Try.func66 (by kernel_rfl) rfl #[.slice (some ad243) l0.length c0] rfl (by (try simp only [List.map_toArray, List.map_cons, List.map_nil]); first | done | rfl | (simp only [List.length_drop, List.length_take]; rfl)) ?_; (with_reducible refine (towncrierref04_Copy.calls kj3 (fun k_ => (P0_ k_ ∨ w.heap.size ≤ k_)) _ _ l0 t244 _ ?side1 A14.out).mono ?_); (case side1 => exact HO_0.out); rintro e w17 ⟨v245, rfl, ho0, hb⟩; refine ⟨_, rfl, ?_⟩; have n0_ := Aside0.mk (Kd.V_elder' (by (with_reducible repeat (first | apply Kd.V_alloc | apply Kd.V_drewN | apply Kd.V_drew)); exact HO_0.out) (Kd.N_base ho0) hb); have n1_ := Aside0.mk (Kd.V_elder' (by (with_reducible repeat (first | apply Kd.V_alloc | apply Kd.V_drewN | apply Kd.V_drew)); exact HL243_8.out) (Kd.N_base ho0) hb); have n2_ := Aside0.mk (Kd.N_lower (Kd.N_mono (ok' := fun k_ => (P0_ k_ ∨ w.heap.size ≤ k_)) ho0 (fun k_ hk_ => Or.elim hk_ (fun hs_ => hs_) (fun hn_ => (.inr (Nat.le_trans (below_size (by repeat (first | (with_reducible first | exact HB.out | apply below_alloc | apply pw_below_drewN | apply below_drew1) | exact HB.out))) hn_))))) (below_size (by repeat (first | (with_reducible first | exact HB.out | apply below_alloc | apply pw_below_drewN | apply below_drew1) | exact HB.out)))); have n3_ := Aside0.mk (Kd.C_below (by repeat (first | (with_reducible exact HR243_8.out) | (with_reducible refine Kd.C_alloc ?_ _) | (with_reducible refine Kd.C_drewN ?_ _) | (with_reducible refine Kd.C_drew ?_) | exact HR243_8.out)) hb); have n4_ := Aside0.mk (below_step (by repeat (first | (with_reducible first | exact HB.out | apply below_alloc | apply pw_below_drewN | apply below_drew1) | exact HB.out)) hb); clear HO_0; clear HL243_8; clear HR243_8; clear HB; have HO_0 := n0_; have HL243_8 := n1_; have HO246 := n2_; have HR243_8 := n3_; have HB := n4_; clear n0_ n1_ n2_ n3_ n4_; (try clear hb); (try clear hb2); (try clear hk); (try clear hi); (try clear ho0); have p16 : 0 ≤ ((ji9) : Int) := of_decide_eq_true (by first | (with_reducible assumption) | assumption); have q16 : ((ji9) : Int) < ((t244.length : Int) : Int) := of_decide_eq_true (by first | (with_reducible assumption) | assumption); obtain ⟨go16, co16, eo16, gb16, gl16, cl16, HG16⟩ := Kd.N_form HO246.out (by omega); (first | cases eo16 | (injection eo16 with ea_ en_ ec_; (first | subst ea_ | (injection ea_ with ea_; subst ea_)); subst ec_; clear en_)); have GB16 := Aside0.mk gb16; have GG16 := Aside0.mk HG16; clear gb16 gl16 HG16; obtain ⟨ce16, hcl16, hM16, hcc16, hfr16⟩ := Kd.N_elem HO246.out z61 ((ji9) : Int) p16 q16; obtain ⟨ua16_8, uc16_8, rfl, ul16_8, ge16_8⟩ := k61_openF hM16; have hx16_0 : w17.cell? ⟨go16, ((ji9) : Int).toNat * 9, none⟩ = some (.int .i64 ((rd_T61 t244 (ji9)).f0)) := hcc16 0 _ rfl; have hx16_1 : w17.cell? ⟨go16, ((ji9) : Int).toNat * 9 + 1, none⟩ = some (.int .i64 ((rd_T61 t244 (ji9)).f1)) := hcc16 1 _ rfl; have hx16_2 : w17.cell? ⟨go16, ((ji9) : Int).toNat * 9 + 2, none⟩ = some (.int .i64 ((rd_T61 t244 (ji9)).f2)) := hcc16 2 _ rfl; have hx16_3 : w17.cell? ⟨go16, ((ji9) : Int).toNat * 9 + 3, none⟩ = some (.int .i64 ((rd_T61 t244 (ji9)).f3)) := hcc16 3 _ rfl; have hx16_4 : w17.cell? ⟨go16, ((ji9) : Int).toNat * 9 + 4, none⟩ = some (.int .i64 ((rd_T61 t244 (ji9)).f4)) := hcc16 4 _ rfl; have hx16_5 : w17.cell? ⟨go16, ((ji9) : Int).toNat * 9 + 5, none⟩ = some (.bool ((rd_T61 t244 (ji9)).f5)) := hcc16 5 _ rfl; have hx16_6 : w17.cell? ⟨go16, ((ji9) : Int).toNat * 9 + 6, none⟩ = some (.string ((rd_T61 t244 (ji9)).f6)) := hcc16 6 _ rfl; have hx16_7 : w17.cell? ⟨go16, ((ji9) : Int).toNat * 9 + 7, none⟩ = some (.string ((rd_T61 t244 (ji9)).f7)) := hcc16 7 _ rfl; have hx16_8 : w17.cell? ⟨go16, ((ji9) : Int).toNat * 9 + 8, none⟩ = some (.slice ua16_8 ((rd_T61 t244 (ji9)).f8).length uc16_8) := hcc16 8 _ rfl; have hf16_0 : w17.frozen? ⟨go16, ((ji9) : Int).toNat * 9, none⟩ = false := hfr16 0; have hf16_1 : w17.frozen? ⟨go16, ((ji9) : Int).toNat * 9 + 1, none⟩ = false := hfr16 1; have hf16_2 : w17.frozen? ⟨go16, ((ji9) : Int).toNat * 9 + 2, none⟩ = false := hfr16 2; have hf16_3 : w17.frozen? ⟨go16, ((ji9) : Int).toNat * 9 + 3, none⟩ = false := hfr16 3; have hf16_4 : w17.frozen? ⟨go16, ((ji9) : Int).toNat * 9 + 4, none⟩ = false := hfr16 4; have hf16_5 : w17.frozen? ⟨go16, ((ji9) : Int).toNat * 9 + 5, none⟩ = false := hfr16 5; have hf16_6 : w17.frozen? ⟨go16, ((ji9) : Int).toNat * 9 + 6, none⟩ = false := hfr16 6; have hf16_7 : w17.frozen? ⟨go16, ((ji9) : Int).toNat * 9 + 7, none⟩ = false := hfr16 7; have hf16_8 : w17.frozen? ⟨go16, ((ji9) : Int).toNat * 9 + 8, none⟩ = false := hfr16 8; clear hcl16 hcc16 hfr16 hM16; replace p16 := eq_true p16; replace q16 := eq_true q16; have HX18 := Aside0.mk (show Kd.N k61 61 w17 w.heap.size (fun k_ => (P0_ k_ ∨ w.heap.size ≤ k_)) (.slice (some ⟨go16, 0, none⟩) t244.length co16) t244 from (by (with_reducible repeat (first | apply Kd.N_alloc | apply Kd.N_drewN | apply Kd.N_drew)); exact HO246.out)); obtain ⟨ce18, hcl18, hM18, hcc18, hfr18⟩ := Kd.N_elem HX18.out z61 ((ji9) : Int) (of_decide_eq_true (by first | (with_reducible assumption) | assumption)) (by have h_ : ((ji9) : Int) < ((t244.length : Int) : Int) := of_decide_eq_true (by first | (with_reducible assumption) | assumption); first | exact h_ | (have e_ := (Kd.N_reads' HO246.out).1; omega) | simpa using h_); obtain ⟨ua18_8, uc18_8, rfl, ul18_8, ge18_8⟩ := k61_openF hM18; have HP18 := Kd.N_seg HX18.out ((ji9) : Int) (of_decide_eq_true (by first | (with_reducible assumption) | assumption)) (by have h_ : ((ji9) : Int) < ((t244.length : Int) : Int) := of_decide_eq_true (by first | (with_reducible assumption) | assumption); first | exact h_ | (have e_ := (Kd.N_reads' HO246.out).1; omega) | simpa using h_) (seg := [.string a2]) (j := 6) hcl18 hcc18 (show 7 ≤ 9 from by decide) (x' := (⟨(rd_T61 t244 (ji9)).f0, (rd_T61 t244 (ji9)).f1, (rd_T61 t244 (ji9)).f2, (rd_T61 t244 (ji9)).f3, (rd_T61 t244 (ji9)).f4, (rd_T61 t244 (ji9)).f5, a2, (rd_T61 t244 (ji9)).f7, (rd_T61 t244 (ji9)).f8⟩ : S61)) (k61_mkF _ _ (⟨(rd_T61 t244 (ji9)).f0, (rd_T61 t244 (ji9)).f1, (rd_T61 t244 (ji9)).f2, (rd_T61 t244 (ji9)).f3, (rd_T61 t244 (ji9)).f4, (rd_T61 t244 (ji9)).f5, a2, (rd_T61 t244 (ji9)).f7, (rd_T61 t244 (ji9)).f8⟩ : S61) ul18_8 ge18_8) (fun _ hk => hk); have hx18_6 := hcc18 6 _ rfl; (try simp only [show (k61).sz = 9 from rfl, Nat.mul_one, Nat.add_zero] at hx18_6); have hf18_6 := hfr18 6; (try simp only [show (k61).sz = 9 from rfl, Nat.mul_one, Nat.add_zero] at hf18_6); clear hcl18 hcc18 hfr18 hM18) | ((with_reducible refine gate_store (t := 9) (p := 34) rfl ?_); refine store_event (t := 9) (p := 34) (v := ?vo_w19) (w1 := (w17.setCell ⟨go16, ((ji9) : Int).toNat * 9 + 6, none⟩ (.string a2))) ?hg ?ho ?hn ?hr ?_; (case ho => rfl); (case hg => rfl); (case hn => rfl); (case hr => first | (go_simp; done) | (go_simp; rfl)); intro w19 hw; have hg : w17.grownBy w19 (some go16) := (by rw [hw]; exact HP18.2); have hp_ : Kd.N k61 61 w19 w.heap.size (fun k_ => (P0_ k_ ∨ w.heap.size ≤ k_)) (.slice (some ⟨go16, 0, none⟩) t244.length co16) y247 := (by rw [hw, Ny247.out]; exact HP18.1); clear HP18; have n0_ := Aside0.mk (Kd.V_afterv (v := (.slice (some ⟨go16, 0, none⟩) t244.length co16)) (v1 := (.slice (some ⟨go16, 0, none⟩) t244.length co16)) (ok := (fun k_ => (P0_ k_ ∨ w.heap.size ≤ k_))) (by (with_reducible repeat (first | apply Kd.V_alloc | apply Kd.V_drewN | apply Kd.V_drew)); exact HO_0.out) hg (.inl rfl)); have n1_ := Aside0.mk (Kd.V_afterv (v := (.slice (some ⟨go16, 0, none⟩) t244.length co16)) (v1 := (.slice (some ⟨go16, 0, none⟩) t244.length co16)) (ok := (fun k_ => (P0_ k_ ∨ w.heap.size ≤ k_))) (by (with_reducible repeat (first | apply Kd.V_alloc | apply Kd.V_drewN | apply Kd.V_drew)); exact HL243_8.out) hg (.inl rfl)); have n2_ := Aside0.mk (hp_); have n3_ := Aside0.mk ((by rw [hw]; exact below_set (HB.out) GB16.out : Below w.heap.size w w19)); clear HO_0; clear HL243_8; clear HO246; clear HB; have HO_0 := n0_; have HL243_8 := n1_; have HO246 := n2_; have HB := n3_; clear n0_ n1_ n2_ n3_; clear hg hw hp_))
                go_ret2
                exact ⟨_, by first | rfl | (simp [errW_none, errW_some] <;> rfl) | (simp only [← hji9]; first | rfl | (simp [errW_none, errW_some] <;> rfl)) | (simp [*, errW_none, errW_some] <;> rfl), Kd.N_V (by (with_reducible repeat (first | apply Kd.N_alloc | apply Kd.N_drewN | apply Kd.N_drew)); exact HO246.out), by repeat (first | (with_reducible first | exact HB.out | apply below_alloc | apply pw_below_drewN | apply below_drew1) | exact HB.out)⟩
              · rw [if_neg c15] at H
                exact absurd H (by simp)
            · replace c13 := Bool.eq_false_iff.mpr c13
              subst c13
              have H1 : (some (l0, 2)) = some (r1, r2) := by rw [if_neg (show ¬ (false = true) by decide)] at H; exact H
              clear H
              have H := H1
              clear H1
              simp only [Option.some.injEq, Prod.mk.injEq] at H
              obtain ⟨rfl, rfl⟩ := H
              have p243 : 0 ≤ ((ji9) : Int) := of_decide_eq_true (by first | (with_reducible assumption) | assumption)
              have q243 : (ji9) < (l0.length : Int) := of_decide_eq_true (by first | (with_reducible assumption) | assumption)
              obtain ⟨ad243, A243_8, c243_8, e243, hx243_0, hx243_1, hx243_2, hx243_3, hx243_4, hx243_5, hx243_6, hx243_7, hx243_8, hl243_8, hi243_8⟩ := at_T61 (Kd.V_reads' HO_0.out).2.2 (ji9) p243 q243
              (try rw [← Nbq12.out] at hx243_5)
              cases e243
              obtain ⟨ce243, hce243, hMe243, hcc243⟩ := Kd.V_get HO_0.out z61 (ji9) p243 (by first | exact q243 | exact of_decide_eq_true (by first | (with_reducible assumption) | assumption) | (have e_ := (Kd.V_reads' HO_0.out).1; omega))
              obtain ⟨ua243_8, uc243_8, rfl, ul243_8, ge243_8⟩ := k61_openF hMe243
              have hv243_8 := hcc243 8 _ rfl
              rw [add_field _ _ 8 (by omega)] at hv243_8
              replace hv243_8 := Option.some.inj (hv243_8.symm.trans hx243_8)
              injection hv243_8 with hva_ hvn_ hvc_
              rw [hva_] at ge243_8
              rw [hvc_] at ul243_8
              have HL243_8 := Aside0.mk (show Kd.V (Kd.int .i64) 3 _ w.heap.size _ _ ((rd_T61 l0 (ji9)).f8) from Kd.V_mk ul243_8 ge243_8)
              clear hva_ hvn_ hvc_ ge243_8 ul243_8
              clear hcc243 hce243
              have HR243_8 := Aside0.mk hi243_8
              have HC243_8 := Aside0.mk hl243_8
              clear hi243_8 hl243_8
              replace p243 := eq_true p243
              replace q243 := eq_true q243
              go_wp2
              go_ret2
              exact ⟨_, by first | rfl | (simp [errW_none, errW_some] <;> rfl) | (simp only [← hji9]; first | rfl | (simp [errW_none, errW_some] <;> rfl)) | (simp [*, errW_none, errW_some] <;> rfl), by (with_reducible repeat (first | apply Kd.V_alloc | apply Kd.V_drewN | apply Kd.V_drew)); exact HO_0.out, by repeat (first | (with_reducible first | exact HB.out | apply below_alloc | apply pw_below_drewN | apply below_drew1) | exact HB.out)⟩
          · rw [if_neg c11] at H
            exact absurd H (by simp)
        · rw [if_neg c10] at H
          exact absurd H (by simp)

/-! ### towncrierref04_Want: function 57 -/
def towncrierref04_Want.j0 : Nat → List (S61) → Int → ByteArray → Bool → Option ((List (S61)) × Int)
  | 0, _, _, _, _ => none
  | k + 1, x0, x1, x2, x17 => if x17 = true then (some (x0, 1)) else (if 0 ≤ (wrap64 (x1 - 1)) then (if (wrap64 (x1 - 1)) < (x0.length : Int) then (if ((rd_T61 x0 (wrap64 (x1 - 1))).f0) = 2 then ((towncrierref04_Copy.f k x0).bind fun t251 => (if (wrap64 (x1 - 1)) < (t251.length : Int) then (some ((t251.set ((wrap64 (x1 - 1)) : Int).toNat (⟨(rd_T61 t251 (wrap64 (x1 - 1))).f0, (rd_T61 t251 (wrap64 (x1 - 1))).f1, (rd_T61 t251 (wrap64 (x1 - 1))).f2, (rd_T61 t251 (wrap64 (x1 - 1))).f3, (rd_T61 t251 (wrap64 (x1 - 1))).f4, (rd_T61 t251 (wrap64 (x1 - 1))).f5, (rd_T61 t251 (wrap64 (x1 - 1))).f6, x2, (rd_T61 t251 (wrap64 (x1 - 1))).f8⟩ : S61)), 0)) else (none))) else (some (x0, 2))) else (none)) else (none))
def towncrierref04_Want.f (k : Nat) (l0 : List (S61)) (a1 : Int) (a2 : ByteArray) : Option ((List (S61)) × Int) := (towncrierref04_There.f l0 a1).bind fun t248 => (if t248 = true then ((towncrierref04_named.f k a2).bind fun t249 => (towncrierref04_Want.j0 k l0 a1 a2 (!t249))) else (towncrierref04_Want.j0 k l0 a1 a2 true))
theorem towncrierref04_Want.mono_l : ∀ k, (∀ y0 y1 y2 y3, LeO (towncrierref04_Want.j0 k y0 y1 y2 y3) (towncrierref04_Want.j0 (k + 1) y0 y1 y2 y3))
  | 0 => fun _ _ _ _ r h => by simp [towncrierref04_Want.j0] at h
  | k + 1 => by
    have ih0 := towncrierref04_Want.mono_l k
    · intro y0 y1 y2 y3
      unfold towncrierref04_Want.j0
      repeat' first
      | (with_reducible exact ih0 _ _ _ _)
      | (with_reducible exact towncrierref04_Copy.mono _ _)
      | (with_reducible exact towncrierref04_named.mono _ _)
      | (with_reducible exact LeO.refl _)
      | (with_reducible exact LeO.none _)
      | (with_reducible refine LeO.ite ?_ ?_)
      | (with_reducible refine LeO.bind ?_ (fun _ => ?_))
      | exact ih0 _ _ _ _
      | exact towncrierref04_Copy.mono _ _
      | exact towncrierref04_named.mono _ _
      | exact LeO.none _
      | refine LeO.ite ?_ ?_
      | refine LeO.bind ?_ (fun _ => ?_)
theorem towncrierref04_Want.mono : ∀ a0 a1 a2 k, LeO (towncrierref04_Want.f k a0 a1 a2) (towncrierref04_Want.f (k + 1) a0 a1 a2) := by
  intro a0 a1 a2 k
  have ih0 := towncrierref04_Want.mono_l k
  unfold towncrierref04_Want.f
  repeat' first
      | (with_reducible exact ih0 _ _ _ _)
      | (with_reducible exact towncrierref04_Copy.mono _ _)
      | (with_reducible exact towncrierref04_named.mono _ _)
      | (with_reducible exact LeO.refl _)
      | (with_reducible exact LeO.none _)
      | (with_reducible refine LeO.ite ?_ ?_)
      | (with_reducible refine LeO.bind ?_ (fun _ => ?_))
      | exact ih0 _ _ _ _
      | exact towncrierref04_Copy.mono _ _
      | exact towncrierref04_named.mono _ _
      | exact LeO.none _
      | refine LeO.ite ?_ ?_
      | refine LeO.bind ?_ (fun _ => ?_)
set_option maxHeartbeats 8000000 in
set_option maxRecDepth 100000 in
theorem towncrierref04_Want.calls (k : Nat) (P0_ : Nat → Prop) (A0 : Option Addr) (c0 : Nat) (l0 : List (S61)) (a1 : Int) (a2 : ByteArray) (r1 : List (S61)) (r2 : Int) (w : World) (hs0 : Kd.V k61 61 w w.heap.size (fun k_ => P0_ k_) (.slice A0 l0.length c0) l0) (h : towncrierref04_Want.f k l0 a1 a2 = some (r1, r2)) :
    Calls Try.prog 57 #[.slice A0 l0.length c0, .int .i64 a1, .string a2] w fun e w' => ∃ v0_ : Value, e = .returned (.tuple #[v0_, .int .i64 r2]) ∧ Kd.V k61 61 w' w.heap.size (fun k_ => (P0_ k_ ∨ w.heap.size ≤ k_)) v0_ r1 ∧ Below w.heap.size w w' := by
  have HO0 := Aside0.mk (show Kd.V k61 61 w w.heap.size (fun k_ => (P0_ k_ ∨ w.heap.size ≤ k_)) (.slice A0 l0.length c0) l0 from Kd.V_mono hs0 (fun k_ hk => .inl hk))
  have HB := Aside0.mk (Below.refl w.heap.size w)
  have H : ((towncrierref04_There.f l0 a1).bind fun t248 => (if t248 = true then ((towncrierref04_named.f k a2).bind fun t249 => (towncrierref04_Want.j0 k l0 a1 a2 (!t249))) else (towncrierref04_Want.j0 k l0 a1 a2 true))) = some (r1, r2) := h
  clear h
  have HC4 := Aside0.mk H
  clear H
  go_enter Try.func57, Try.ntmps57
  go_upto_region 1 with (fail)
  go_cut [17] (fun v17 wc => ∃ (kq : Nat) (x17_3 : Bool), v17 = .bool x17_3 ∧ Aside0 (towncrierref04_Want.j0 kq l0 a1 a2 x17_3 = some (r1, r2)) ∧ Aside0 (kq ≤ k) ∧ Aside0 (Kd.V k61 61 wc w.heap.size (fun k_ => (P0_ k_ ∨ w.heap.size ≤ k_)) (.slice A0 l0.length c0) l0) ∧ Aside0 (Below w.heap.size w wc))
  case first =>
    have H := HC4.out
    clear HC4
    replace H := Option.bind_eq_some_iff.mp H
    obtain ⟨t248, A50, H⟩ := H
    replace H : (if t248 = true then ((towncrierref04_named.f k a2).bind fun t249 => (towncrierref04_Want.j0 k l0 a1 a2 (!t249))) else (towncrierref04_Want.j0 k l0 a1 a2 true)) = some (r1, r2) := H
    have A5 := Aside0.mk A50
    clear A50
    by_cases c6 : t248 = true
    · subst c6
      have H1 : ((towncrierref04_named.f k a2).bind fun t249 => (towncrierref04_Want.j0 k l0 a1 a2 (!t249))) = some (r1, r2) := by rw [if_pos rfl] at H; exact H
      clear H
      have H := H1
      clear H1
      replace H := Option.bind_eq_some_iff.mp H
      obtain ⟨t249, A70, H⟩ := H
      replace H : (towncrierref04_Want.j0 k l0 a1 a2 (!t249)) = some (r1, r2) := H
      have A7 := Aside0.mk A70
      clear A70
      have H' := Aside0.mk H
      clear H
      go_wp2_with (first | ((with_reducible refine gate_callee (f := 49) rfl ?_); refine goesL_ (some 11) rfl rfl Try.func49 (by kernel_rfl) rfl #[.slice A0 l0.length c0, .int .i64 a1] rfl (by (try simp only [List.map_toArray, List.map_cons, List.map_nil]); first | done | rfl | (simp only [List.length_drop, List.length_take]; rfl)) ?_; (with_reducible refine (towncrierref04_There.calls _ _ l0 a1 true _ ?side1 ?side2 A5.out).mono ?_); (case side1 => repeat (first | exact (Kd.V_reads' HO0.out).2.2 | (with_reducible refine Kd.C_alloc ?_ _) | (with_reducible refine Kd.C_drewN ?_ _) | (with_reducible refine Kd.C_drew ?_))); (case side2 => exact (Kd.V_reads' HO0.out).2.1); rintro e w' ⟨rfl, ⟨nd, rfl⟩⟩; refine ⟨_, rfl, ?_⟩) | (go_at_call 65; (with_reducible refine (towncrierref04_named.calls k a2 t249 _ A7.out).mono ?_); rintro e w' ⟨rfl, ⟨nd, rfl⟩⟩))
      go_meet
      case rel => exact ⟨_, (!t249), (by first | rfl | (simp; done) | (simp [*]; done)), H', ⟨by first | omega | exact Nat.le_refl _⟩, ⟨by (with_reducible repeat (first | apply Kd.V_alloc | apply Kd.V_drewN | apply Kd.V_drew)); exact HO0.out⟩, ⟨by repeat (first | (with_reducible first | exact HB.out | apply below_alloc | apply pw_below_drewN | apply below_drew1) | exact HB.out)⟩⟩
    · replace c6 := Bool.eq_false_iff.mpr c6
      subst c6
      have H1 : (towncrierref04_Want.j0 k l0 a1 a2 true) = some (r1, r2) := by rw [if_neg (show ¬ (false = true) by decide)] at H; exact H
      clear H
      have H := H1
      clear H1
      have H' := Aside0.mk H
      clear H
      go_wp2_with (first | ((with_reducible refine gate_callee (f := 49) rfl ?_); refine goesL_ (some 11) rfl rfl Try.func49 (by kernel_rfl) rfl #[.slice A0 l0.length c0, .int .i64 a1] rfl (by (try simp only [List.map_toArray, List.map_cons, List.map_nil]); first | done | rfl | (simp only [List.length_drop, List.length_take]; rfl)) ?_; (with_reducible refine (towncrierref04_There.calls _ _ l0 a1 false _ ?side1 ?side2 A5.out).mono ?_); (case side1 => repeat (first | exact (Kd.V_reads' HO0.out).2.2 | (with_reducible refine Kd.C_alloc ?_ _) | (with_reducible refine Kd.C_drewN ?_ _) | (with_reducible refine Kd.C_drew ?_))); (case side2 => exact (Kd.V_reads' HO0.out).2.1); rintro e w' ⟨rfl, ⟨nd, rfl⟩⟩; refine ⟨_, rfl, ?_⟩))
      go_meet
      case rel => exact ⟨_, (true), (by first | rfl | (simp; done) | (simp [*]; done)), H', ⟨by first | omega | exact Nat.le_refl _⟩, ⟨by (with_reducible repeat (first | apply Kd.V_alloc | apply Kd.V_drewN | apply Kd.V_drew)); exact HO0.out⟩, ⟨by repeat (first | (with_reducible first | exact HB.out | apply below_alloc | apply pw_below_drewN | apply below_drew1) | exact HB.out)⟩⟩
  case rest =>
    clear HC4
    try clear p2
    try clear c4
    try clear c5
    try clear c6
    obtain ⟨kq, x17_3, rfl, HA, HJ3, HO_0, HB⟩ := hcut
    cases kq with
    | zero => exact absurd HA.out (by simp [towncrierref04_Want.j0])
    | succ kj3 =>
      have H := HA.out
      clear HA
      simp only [towncrierref04_Want.j0] at H
      by_cases c8 : x17_3 = true
      · subst c8
        have H1 : (some (l0, 1)) = some (r1, r2) := by rw [if_pos rfl] at H; exact H
        clear H
        have H := H1
        clear H1
        simp only [Option.some.injEq, Prod.mk.injEq] at H
        obtain ⟨rfl, rfl⟩ := H
        go_wp2
        go_ret2
        exact ⟨_, by first | rfl | (simp [errW_none, errW_some] <;> rfl) | (simp [*, errW_none, errW_some] <;> rfl), by (with_reducible repeat (first | apply Kd.V_alloc | apply Kd.V_drewN | apply Kd.V_drew)); exact HO_0.out, by repeat (first | (with_reducible first | exact HB.out | apply below_alloc | apply pw_below_drewN | apply below_drew1) | exact HB.out)⟩
      · replace c8 := Bool.eq_false_iff.mpr c8
        subst c8
        have H1 : (if 0 ≤ (wrap64 (a1 - 1)) then (if (wrap64 (a1 - 1)) < (l0.length : Int) then (if ((rd_T61 l0 (wrap64 (a1 - 1))).f0) = 2 then ((towncrierref04_Copy.f kj3 l0).bind fun t251 => (if (wrap64 (a1 - 1)) < (t251.length : Int) then (some ((t251.set ((wrap64 (a1 - 1)) : Int).toNat (⟨(rd_T61 t251 (wrap64 (a1 - 1))).f0, (rd_T61 t251 (wrap64 (a1 - 1))).f1, (rd_T61 t251 (wrap64 (a1 - 1))).f2, (rd_T61 t251 (wrap64 (a1 - 1))).f3, (rd_T61 t251 (wrap64 (a1 - 1))).f4, (rd_T61 t251 (wrap64 (a1 - 1))).f5, (rd_T61 t251 (wrap64 (a1 - 1))).f6, a2, (rd_T61 t251 (wrap64 (a1 - 1))).f8⟩ : S61)), 0)) else (none))) else (some (l0, 2))) else (none)) else (none)) = some (r1, r2) := by rw [if_neg (show ¬ (false = true) by decide)] at H; exact H
        clear H
        have H := H1
        clear H1
        obtain ⟨ji9, hji9⟩ : ∃ j_ : Int, (wrap64 (a1 - 1)) = j_ := ⟨_, rfl⟩
        replace H : (if 0 ≤ (ji9) then (if (ji9) < (l0.length : Int) then (if ((rd_T61 l0 (ji9)).f0) = 2 then ((towncrierref04_Copy.f kj3 l0).bind fun t251 => (if (ji9) < (t251.length : Int) then (some ((t251.set ((ji9) : Int).toNat (⟨(rd_T61 t251 (ji9)).f0, (rd_T61 t251 (ji9)).f1, (rd_T61 t251 (ji9)).f2, (rd_T61 t251 (ji9)).f3, (rd_T61 t251 (ji9)).f4, (rd_T61 t251 (ji9)).f5, (rd_T61 t251 (ji9)).f6, a2, (rd_T61 t251 (ji9)).f8⟩ : S61)), 0)) else (none))) else (some (l0, 2))) else (none)) else (none)) = some (r1, r2) := by first | (rw [hji9] at H; exact H) | (simp only [hji9] at H ⊢; exact H)
        have hji9w : (IntKind.i64.wrap (a1 - 1)) = ji9 := (i64_w _).trans hji9
        by_cases c10 : 0 ≤ (ji9)
        · rw [if_pos c10] at H
          have c10b0 : decide (0 ≤ (ji9)) = true := decide_eq_true c10
          clear c10
          by_cases c11 : (ji9) < (l0.length : Int)
          · rw [if_pos c11] at H
            have c11b0 : decide ((ji9) < (l0.length : Int)) = true := decide_eq_true c11
            clear c11
            by_cases c12 : ((rd_T61 l0 (ji9)).f0) = 2
            · rw [if_pos c12] at H
              have c12b0 : (((rd_T61 l0 (ji9)).f0) == 2) = true := beq_iff_eq.mpr c12
              have c12b1 : (((rd_T61 l0 (ji9)).f0) != 2) = false := bne_eq_false_iff_eq.mpr c12
              clear c12
              replace H := Option.bind_eq_some_iff.mp H
              obtain ⟨t251, A130, H⟩ := H
              replace H : (if (ji9) < (t251.length : Int) then (some ((t251.set ((ji9) : Int).toNat (⟨(rd_T61 t251 (ji9)).f0, (rd_T61 t251 (ji9)).f1, (rd_T61 t251 (ji9)).f2, (rd_T61 t251 (ji9)).f3, (rd_T61 t251 (ji9)).f4, (rd_T61 t251 (ji9)).f5, (rd_T61 t251 (ji9)).f6, a2, (rd_T61 t251 (ji9)).f8⟩ : S61)), 0)) else (none)) = some (r1, r2) := H
              have A13 := Aside0.mk A130
              clear A130
              by_cases c14 : (ji9) < (t251.length : Int)
              · rw [if_pos c14] at H
                have c14b0 : decide ((ji9) < (t251.length : Int)) = true := decide_eq_true c14
                clear c14
                obtain ⟨y254, hy254⟩ : ∃ y_ : List (S61), y_ = (t251.set ((ji9) : Int).toNat (⟨(rd_T61 t251 (ji9)).f0, (rd_T61 t251 (ji9)).f1, (rd_T61 t251 (ji9)).f2, (rd_T61 t251 (ji9)).f3, (rd_T61 t251 (ji9)).f4, (rd_T61 t251 (ji9)).f5, (rd_T61 t251 (ji9)).f6, a2, (rd_T61 t251 (ji9)).f8⟩ : S61)) := ⟨_, rfl⟩
                replace H : (some (y254, 0)) = some (r1, r2) := by first | (rw [hy254]; with_reducible exact H) | (have H2_ := (Option.bind_some _ _).symm.trans H; rw [hy254]; with_reducible exact H2_) | (have H2_ := (Option.bind_some _ _).symm.trans H; with_reducible exact H2_) | with_reducible exact H | (rw [hy254]; exact H) | exact H
                have Ny254 := Aside0.mk hy254
                clear hy254
                simp only [Option.some.injEq, Prod.mk.injEq] at H
                obtain ⟨rfl, rfl⟩ := H
                have p250 : 0 ≤ ((ji9) : Int) := of_decide_eq_true (by first | (with_reducible assumption) | assumption)
                have q250 : (ji9) < (l0.length : Int) := of_decide_eq_true (by first | (with_reducible assumption) | assumption)
                obtain ⟨ad250, A250_8, c250_8, e250, hx250_0, hx250_1, hx250_2, hx250_3, hx250_4, hx250_5, hx250_6, hx250_7, hx250_8, hl250_8, hi250_8⟩ := at_T61 (Kd.V_reads' HO_0.out).2.2 (ji9) p250 q250
                cases e250
                obtain ⟨ce250, hce250, hMe250, hcc250⟩ := Kd.V_get HO_0.out z61 (ji9) p250 (by first | exact q250 | exact of_decide_eq_true (by first | (with_reducible assumption) | assumption) | (have e_ := (Kd.V_reads' HO_0.out).1; omega))
                obtain ⟨ua250_8, uc250_8, rfl, ul250_8, ge250_8⟩ := k61_openF hMe250
                have hv250_8 := hcc250 8 _ rfl
                rw [add_field _ _ 8 (by omega)] at hv250_8
                replace hv250_8 := Option.some.inj (hv250_8.symm.trans hx250_8)
                injection hv250_8 with hva_ hvn_ hvc_
                rw [hva_] at ge250_8
                rw [hvc_] at ul250_8
                have HL250_8 := Aside0.mk (show Kd.V (Kd.int .i64) 3 _ w.heap.size _ _ ((rd_T61 l0 (ji9)).f8) from Kd.V_mk ul250_8 ge250_8)
                clear hva_ hvn_ hvc_ ge250_8 ul250_8
                clear hcc250 hce250
                have HR250_8 := Aside0.mk hi250_8
                have HC250_8 := Aside0.mk hl250_8
                clear hi250_8 hl250_8
                replace p250 := eq_true p250
                replace q250 := eq_true q250
                go_wp2_with (first | ((with_reducible refine gate_callee (f := 66) rfl ?_); refine goesL_ (some 28) rfl rfl Try.func66 (by kernel_rfl) rfl #[.slice (some ad250) l0.length c0] rfl (by (try simp only [List.map_toArray, List.map_cons, List.map_nil]); first | done | rfl | (simp only [List.length_drop, List.length_take]; rfl)) ?_; (with_reducible refine (towncrierref04_Copy.calls kj3 (fun k_ => (P0_ k_ ∨ w.heap.size ≤ k_)) _ _ l0 t251 _ ?side1 A13.out).mono ?_); (case side1 => exact HO_0.out); rintro e w16 ⟨v252, rfl, ho0, hb⟩; refine ⟨_, rfl, ?_⟩; have n0_ := Aside0.mk (Kd.V_elder' (by (with_reducible repeat (first | apply Kd.V_alloc | apply Kd.V_drewN | apply Kd.V_drew)); exact HO_0.out) (Kd.N_base ho0) hb); have n1_ := Aside0.mk (Kd.V_elder' (by (with_reducible repeat (first | apply Kd.V_alloc | apply Kd.V_drewN | apply Kd.V_drew)); exact HL250_8.out) (Kd.N_base ho0) hb); have n2_ := Aside0.mk (Kd.N_lower (Kd.N_mono (ok' := fun k_ => (P0_ k_ ∨ w.heap.size ≤ k_)) ho0 (fun k_ hk_ => Or.elim hk_ (fun hs_ => hs_) (fun hn_ => (.inr (Nat.le_trans (below_size (by repeat (first | (with_reducible first | exact HB.out | apply below_alloc | apply pw_below_drewN | apply below_drew1) | exact HB.out))) hn_))))) (below_size (by repeat (first | (with_reducible first | exact HB.out | apply below_alloc | apply pw_below_drewN | apply below_drew1) | exact HB.out)))); have n3_ := Aside0.mk (Kd.C_below (by repeat (first | (with_reducible exact HR250_8.out) | (with_reducible refine Kd.C_alloc ?_ _) | (with_reducible refine Kd.C_drewN ?_ _) | (with_reducible refine Kd.C_drew ?_) | exact HR250_8.out)) hb); have n4_ := Aside0.mk (below_step (by repeat (first | (with_reducible first | exact HB.out | apply below_alloc | apply pw_below_drewN | apply below_drew1) | exact HB.out)) hb); clear HO_0; clear HL250_8; clear HR250_8; clear HB; have HO_0 := n0_; have HL250_8 := n1_; have HO253 := n2_; have HR250_8 := n3_; have HB := n4_; clear n0_ n1_ n2_ n3_ n4_; (try clear hb); (try clear hb2); (try clear hk); (try clear hi); (try clear ho0); have p15 : 0 ≤ ((ji9) : Int) := of_decide_eq_true (by first | (with_reducible assumption) | assumption); have q15 : ((ji9) : Int) < ((t251.length : Int) : Int) := of_decide_eq_true (by first | (with_reducible assumption) | assumption); obtain ⟨go15, co15, eo15, gb15, gl15, cl15, HG15⟩ := Kd.N_form HO253.out (by omega); (first | cases eo15 | (injection eo15 with ea_ en_ ec_; (first | subst ea_ | (injection ea_ with ea_; subst ea_)); subst ec_; clear en_)); have GB15 := Aside0.mk gb15; have GG15 := Aside0.mk HG15; clear gb15 gl15 HG15; obtain ⟨ce15, hcl15, hM15, hcc15, hfr15⟩ := Kd.N_elem HO253.out z61 ((ji9) : Int) p15 q15; obtain ⟨ua15_8, uc15_8, rfl, ul15_8, ge15_8⟩ := k61_openF hM15; have hx15_0 : w16.cell? ⟨go15, ((ji9) : Int).toNat * 9, none⟩ = some (.int .i64 ((rd_T61 t251 (ji9)).f0)) := hcc15 0 _ rfl; have hx15_1 : w16.cell? ⟨go15, ((ji9) : Int).toNat * 9 + 1, none⟩ = some (.int .i64 ((rd_T61 t251 (ji9)).f1)) := hcc15 1 _ rfl; have hx15_2 : w16.cell? ⟨go15, ((ji9) : Int).toNat * 9 + 2, none⟩ = some (.int .i64 ((rd_T61 t251 (ji9)).f2)) := hcc15 2 _ rfl; have hx15_3 : w16.cell? ⟨go15, ((ji9) : Int).toNat * 9 + 3, none⟩ = some (.int .i64 ((rd_T61 t251 (ji9)).f3)) := hcc15 3 _ rfl; have hx15_4 : w16.cell? ⟨go15, ((ji9) : Int).toNat * 9 + 4, none⟩ = some (.int .i64 ((rd_T61 t251 (ji9)).f4)) := hcc15 4 _ rfl; have hx15_5 : w16.cell? ⟨go15, ((ji9) : Int).toNat * 9 + 5, none⟩ = some (.bool ((rd_T61 t251 (ji9)).f5)) := hcc15 5 _ rfl; have hx15_6 : w16.cell? ⟨go15, ((ji9) : Int).toNat * 9 + 6, none⟩ = some (.string ((rd_T61 t251 (ji9)).f6)) := hcc15 6 _ rfl; have hx15_7 : w16.cell? ⟨go15, ((ji9) : Int).toNat * 9 + 7, none⟩ = some (.string ((rd_T61 t251 (ji9)).f7)) := hcc15 7 _ rfl; have hx15_8 : w16.cell? ⟨go15, ((ji9) : Int).toNat * 9 + 8, none⟩ = some (.slice ua15_8 ((rd_T61 t251 (ji9)).f8).length uc15_8) := hcc15 8 _ rfl; have hf15_0 : w16.frozen? ⟨go15, ((ji9) : Int).toNat * 9, none⟩ = false := hfr15 0; have hf15_1 : w16.frozen? ⟨go15, ((ji9) : Int).toNat * 9 + 1, none⟩ = false := hfr15 1; have hf15_2 : w16.frozen? ⟨go15, ((ji9) : Int).toNat * 9 + 2, none⟩ = false := hfr15 2; have hf15_3 : w16.frozen? ⟨go15, ((ji9) : Int).toNat * 9 + 3, none⟩ = false := hfr15 3; have hf15_4 : w16.frozen? ⟨go15, ((ji9) : Int).toNat * 9 + 4, none⟩ = false := hfr15 4; have hf15_5 : w16.frozen? ⟨go15, ((ji9) : Int).toNat * 9 + 5, none⟩ = false := hfr15 5; have hf15_6 : w16.frozen? ⟨go15, ((ji9) : Int).toNat * 9 + 6, none⟩ = false := hfr15 6; have hf15_7 : w16.frozen? ⟨go15, ((ji9) : Int).toNat * 9 + 7, none⟩ = false := hfr15 7; have hf15_8 : w16.frozen? ⟨go15, ((ji9) : Int).toNat * 9 + 8, none⟩ = false := hfr15 8; clear hcl15 hcc15 hfr15 hM15; replace p15 := eq_true p15; replace q15 := eq_true q15; have HX17 := Aside0.mk (show Kd.N k61 61 w16 w.heap.size (fun k_ => (P0_ k_ ∨ w.heap.size ≤ k_)) (.slice (some ⟨go15, 0, none⟩) t251.length co15) t251 from (by (with_reducible repeat (first | apply Kd.N_alloc | apply Kd.N_drewN | apply Kd.N_drew)); exact HO253.out)); obtain ⟨ce17, hcl17, hM17, hcc17, hfr17⟩ := Kd.N_elem HX17.out z61 ((ji9) : Int) (of_decide_eq_true (by first | (with_reducible assumption) | assumption)) (by have h_ : ((ji9) : Int) < ((t251.length : Int) : Int) := of_decide_eq_true (by first | (with_reducible assumption) | assumption); first | exact h_ | (have e_ := (Kd.N_reads' HO253.out).1; omega) | simpa using h_); obtain ⟨ua17_8, uc17_8, rfl, ul17_8, ge17_8⟩ := k61_openF hM17; have HP17 := Kd.N_seg HX17.out ((ji9) : Int) (of_decide_eq_true (by first | (with_reducible assumption) | assumption)) (by have h_ : ((ji9) : Int) < ((t251.length : Int) : Int) := of_decide_eq_true (by first | (with_reducible assumption) | assumption); first | exact h_ | (have e_ := (Kd.N_reads' HO253.out).1; omega) | simpa using h_) (seg := [.string a2]) (j := 7) hcl17 hcc17 (show 8 ≤ 9 from by decide) (x' := (⟨(rd_T61 t251 (ji9)).f0, (rd_T61 t251 (ji9)).f1, (rd_T61 t251 (ji9)).f2, (rd_T61 t251 (ji9)).f3, (rd_T61 t251 (ji9)).f4, (rd_T61 t251 (ji9)).f5, (rd_T61 t251 (ji9)).f6, a2, (rd_T61 t251 (ji9)).f8⟩ : S61)) (k61_mkF _ _ (⟨(rd_T61 t251 (ji9)).f0, (rd_T61 t251 (ji9)).f1, (rd_T61 t251 (ji9)).f2, (rd_T61 t251 (ji9)).f3, (rd_T61 t251 (ji9)).f4, (rd_T61 t251 (ji9)).f5, (rd_T61 t251 (ji9)).f6, a2, (rd_T61 t251 (ji9)).f8⟩ : S61) ul17_8 ge17_8) (fun _ hk => hk); have hx17_7 := hcc17 7 _ rfl; (try simp only [show (k61).sz = 9 from rfl, Nat.mul_one, Nat.add_zero] at hx17_7); have hf17_7 := hfr17 7; (try simp only [show (k61).sz = 9 from rfl, Nat.mul_one, Nat.add_zero] at hf17_7); clear hcl17 hcc17 hfr17 hM17) | ((with_reducible refine gate_store (t := 9) (p := 34) rfl ?_); refine store_event (t := 9) (p := 34) (v := ?vo_w18) (w1 := (w16.setCell ⟨go15, ((ji9) : Int).toNat * 9 + 7, none⟩ (.string a2))) ?hg ?ho ?hn ?hr ?_; (case ho => rfl); (case hg => rfl); (case hn => rfl); (case hr => first | (go_simp; done) | (go_simp; rfl)); intro w18 hw; have hg : w16.grownBy w18 (some go15) := (by rw [hw]; exact HP17.2); have hp_ : Kd.N k61 61 w18 w.heap.size (fun k_ => (P0_ k_ ∨ w.heap.size ≤ k_)) (.slice (some ⟨go15, 0, none⟩) t251.length co15) y254 := (by rw [hw, Ny254.out]; exact HP17.1); clear HP17; have n0_ := Aside0.mk (Kd.V_afterv (v := (.slice (some ⟨go15, 0, none⟩) t251.length co15)) (v1 := (.slice (some ⟨go15, 0, none⟩) t251.length co15)) (ok := (fun k_ => (P0_ k_ ∨ w.heap.size ≤ k_))) (by (with_reducible repeat (first | apply Kd.V_alloc | apply Kd.V_drewN | apply Kd.V_drew)); exact HO_0.out) hg (.inl rfl)); have n1_ := Aside0.mk (Kd.V_afterv (v := (.slice (some ⟨go15, 0, none⟩) t251.length co15)) (v1 := (.slice (some ⟨go15, 0, none⟩) t251.length co15)) (ok := (fun k_ => (P0_ k_ ∨ w.heap.size ≤ k_))) (by (with_reducible repeat (first | apply Kd.V_alloc | apply Kd.V_drewN | apply Kd.V_drew)); exact HL250_8.out) hg (.inl rfl)); have n2_ := Aside0.mk (hp_); have n3_ := Aside0.mk ((by rw [hw]; exact below_set (HB.out) GB15.out : Below w.heap.size w w18)); clear HO_0; clear HL250_8; clear HO253; clear HB; have HO_0 := n0_; have HL250_8 := n1_; have HO253 := n2_; have HB := n3_; clear n0_ n1_ n2_ n3_; clear hg hw hp_))
                go_ret2
                exact ⟨_, by first | rfl | (simp [errW_none, errW_some] <;> rfl) | (simp only [← hji9]; first | rfl | (simp [errW_none, errW_some] <;> rfl)) | (simp [*, errW_none, errW_some] <;> rfl), Kd.N_V (by (with_reducible repeat (first | apply Kd.N_alloc | apply Kd.N_drewN | apply Kd.N_drew)); exact HO253.out), by repeat (first | (with_reducible first | exact HB.out | apply below_alloc | apply pw_below_drewN | apply below_drew1) | exact HB.out)⟩
              · rw [if_neg c14] at H
                exact absurd H (by simp)
            · rw [if_neg c12] at H
              have c12b0 : (((rd_T61 l0 (ji9)).f0) == 2) = false := beq_eq_false_iff_ne.mpr c12
              have c12b1 : (((rd_T61 l0 (ji9)).f0) != 2) = true := bne_iff_ne.mpr c12
              simp only [Option.some.injEq, Prod.mk.injEq] at H
              obtain ⟨rfl, rfl⟩ := H
              have p250 : 0 ≤ ((ji9) : Int) := of_decide_eq_true (by first | (with_reducible assumption) | assumption)
              have q250 : (ji9) < (l0.length : Int) := of_decide_eq_true (by first | (with_reducible assumption) | assumption)
              obtain ⟨ad250, A250_8, c250_8, e250, hx250_0, hx250_1, hx250_2, hx250_3, hx250_4, hx250_5, hx250_6, hx250_7, hx250_8, hl250_8, hi250_8⟩ := at_T61 (Kd.V_reads' HO_0.out).2.2 (ji9) p250 q250
              cases e250
              obtain ⟨ce250, hce250, hMe250, hcc250⟩ := Kd.V_get HO_0.out z61 (ji9) p250 (by first | exact q250 | exact of_decide_eq_true (by first | (with_reducible assumption) | assumption) | (have e_ := (Kd.V_reads' HO_0.out).1; omega))
              obtain ⟨ua250_8, uc250_8, rfl, ul250_8, ge250_8⟩ := k61_openF hMe250
              have hv250_8 := hcc250 8 _ rfl
              rw [add_field _ _ 8 (by omega)] at hv250_8
              replace hv250_8 := Option.some.inj (hv250_8.symm.trans hx250_8)
              injection hv250_8 with hva_ hvn_ hvc_
              rw [hva_] at ge250_8
              rw [hvc_] at ul250_8
              have HL250_8 := Aside0.mk (show Kd.V (Kd.int .i64) 3 _ w.heap.size _ _ ((rd_T61 l0 (ji9)).f8) from Kd.V_mk ul250_8 ge250_8)
              clear hva_ hvn_ hvc_ ge250_8 ul250_8
              clear hcc250 hce250
              have HR250_8 := Aside0.mk hi250_8
              have HC250_8 := Aside0.mk hl250_8
              clear hi250_8 hl250_8
              replace p250 := eq_true p250
              replace q250 := eq_true q250
              go_wp2
              go_ret2
              exact ⟨_, by first | rfl | (simp [errW_none, errW_some] <;> rfl) | (simp only [← hji9]; first | rfl | (simp [errW_none, errW_some] <;> rfl)) | (simp [*, errW_none, errW_some] <;> rfl), by (with_reducible repeat (first | apply Kd.V_alloc | apply Kd.V_drewN | apply Kd.V_drew)); exact HO_0.out, by repeat (first | (with_reducible first | exact HB.out | apply below_alloc | apply pw_below_drewN | apply below_drew1) | exact HB.out)⟩
          · rw [if_neg c11] at H
            exact absurd H (by simp)
        · rw [if_neg c10] at H
          exact absurd H (by simp)

end Go.Proofs.Ytmjedjhgomlfiaa.PAuditLeaks
