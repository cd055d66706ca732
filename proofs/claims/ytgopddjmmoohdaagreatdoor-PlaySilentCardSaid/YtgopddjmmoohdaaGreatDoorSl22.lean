/- The texts of this seat, joined: part 22 of 25. -/
import Derived.Test.YtgopddjmmoohdaaGreatDoorSl01
import Derived.Test.YtgopddjmmoohdaaGreatDoorSl21
/- world: Do, more arms. -/
set_option linter.unusedSimpArgs false
set_option linter.unusedVariables false
set_option maxRecDepth 100000
set_option maxHeartbeats 3200000
namespace Go.Proofs.YtgopddjmmoohdaaGreatDoor
open Go.RowKit Go.Proofs.YtgopddjmmoohdaaGreatDoorW.PrintWords Go.Proofs.YtgopddjmmoohdaaGreatDoorW.PrintLast Go.Proofs.YtgopddjmmoohdaaGreatDoor.PPlaySilent

theorem dop9_any {cl : Nat → Nat} {w0 w : World} {Wb F L B calls : Nat} {st : St} (h : WoC cl w0 w Wb F L B calls st) (hO : LayO w) (hT : SgOk st.sg) (f1 f2 f3 f4 : Int) (f5 : ByteArray) (ctx : Int) (hr : rightO ⟨9, f1, f2, f3, f4, f5⟩ = true) :
    Calls Tryz.prog 28 #[.pointer (some ⟨Wb, 0, none⟩), opV ⟨9, f1, f2, f3, f4, f5⟩, .int .i64 ctx] w (WoPost cl w0 w Wb F L B calls (doW calls st ⟨9, f1, f2, f3, f4, f5⟩ ctx)) := by
  have hb := fun Z => below_alloc (Below.refl w.heap.size w) Z
  obtain ⟨v, hWb⟩ := h.wb
  have hri := fun W (hW : Below w.heap.size w W) => oright_any ⟨9, f1, f2, f3, f4, f5⟩ W (hO.below hW)
  rw [hr] at hri
  have hm1 := fun W (hW : Below w.heap.size w W) => meant_any (h.below hW) f1 ctx
  have hm2 := fun W (hW : Below w.heap.size w W) => meant_any (h.below hW) f2 ctx
  have hm3 := fun W (hW : Below w.heap.size w W) => meant_any (h.below hW) f3 ctx
  have hnm := fun W (hW : Below w.heap.size w W) => oname_any 9 W (hO.below hW)
  rw [show nameW 9 = ⟨#[97, 98, 111, 114, 116]⟩ from rfl] at hnm
  have HF : doW calls st ⟨9, f1, f2, f3, f4, f5⟩ ctx = doA calls st ⟨9, f1, f2, f3, f4, f5⟩ (meantF st.ev f1 ctx) (meantF st.ev f2 ctx) (meantF st.ev f3 ctx) := if_neg (by rw [hr]; simp)
  generalize meantF st.ev f1 ctx = a at *
  generalize meantF st.ev f2 ctx = b at *
  generalize meantF st.ev f3 ctx = c at *
  rw [show doA calls st ⟨9, f1, f2, f3, f4, f5⟩ a b c = abortW st f1 from rfl] at HF
  replace HF := hd_ HF
  generalize doW calls st ⟨9, f1, f2, f3, f4, f5⟩ ctx = dr at *
  have hop := fun W (hW : Below w.heap.size w W) => abort_any (h.below hW) hT f1
  generalize abortW st f1 = r at *
  obtain ⟨r1, r2, r3⟩ := r
  unfold WoPost at hop
  dsimp only at hop
  simp only [opV] at hri ⊢
  clear hr hO hT
  replace h := hd_ h
  go_enter Tryz.func28, Tryz.ntmps28
  go_wp2_with (go_at_call 27; (with_reducible refine (hri _ (hb _)).mono ?_); rintro e w1 ⟨rfl, hB1⟩; have hC1 := below_then (hb _) (hb _).size hB1; have hX1 := blk_below (blk_new w (.cells #[.int .i64 9, .int .i64 f1, .int .i64 f2, .int .i64 f3, .int .i64 f4, .string f5] 39)) hB1)
  refine start_ (n := 18) (S := (fun W_ => Below w.heap.size w W_ ∧ W_.heap[w.heap.size]? = some (.cells #[.int .i64 9, .int .i64 f1, .int .i64 f2, .int .i64 f3, .int .i64 f4, .string f5] 39 (0, 0)))) (ds := []) (bm 18 0) (by kernel_rfl) rfl (by kernel_rfl) ⟨below_drew hC1, hX1⟩ (fun hHeld => ?_)
  refine pu_ 0 (some 18) (bm 18 1) ?_
  refine pu_ 1 (some 19) (bm 18 3) ?_
  refine ta_ 2 (some 20) (bm 18 7) hHeld (fun _ hSw => (blk_cell hSw.2 1).trans rfl) ?_
  refine pu_ 3 (some 21) (bm 18 15) ?_
  refine pu_ 5 (some 23) (bm 18 47) ?_
  refine pu_ 6 (some 24) (bm 18 111) ?_
  refine ta_ 7 (some 25) (bm 18 239) hHeld (fun _ hSw => (blk_cell hSw.2 2).trans rfl) ?_
  refine pu_ 8 (some 26) (bm 18 495) ?_
  refine pu_ 10 (some 28) (bm 18 1519) ?_
  refine pu_ 11 (some 29) (bm 18 3567) ?_
  refine ta_ 12 (some 30) (bm 18 7663) hHeld (fun _ hSw => (blk_cell hSw.2 3).trans rfl) ?_
  refine pu_ 13 (some 31) (bm 18 15855) ?_
  refine one_ (i := 4) (N := (some 22)) (bm 18 15871) rfl rfl (by kernel_rfl) (by decide) (fun K hK => ?_)
  refine goes_ Tryz.func30 (by kernel_rfl) rfl #[.pointer (some ⟨Wb, 0, none⟩), .int .i64 f1, .int .i64 ctx] (by rfl) rfl rfl (by try simp only [List.map_toArray, List.map_cons, List.map_nil]; first | done | rfl) ?_
  refine (hm1 _ hHeld.1).mono ?_
  rintro e w' ⟨rfl, hw⟩
  obtain rfl := hw.symm
  refine ⟨_, rfl, ?_⟩
  refine hK.out _ _ hHeld (fun hHeld => ?_)
  clear hK K
  refine norm_ (a' := ?_) ?_ ?_
  rotate_left
  · show Act.put _ (some 22) _ = _
    simp only [Act.put, List.setIfInBounds_toArray, List.set_cons_zero, List.set_cons_succ]
    rfl
  refine one_ (i := 9) (N := (some 27)) (bm 18 16383) rfl rfl (by kernel_rfl) (by decide) (fun K hK => ?_)
  refine goes_ Tryz.func30 (by kernel_rfl) rfl #[.pointer (some ⟨Wb, 0, none⟩), .int .i64 f2, .int .i64 ctx] (by rfl) rfl rfl (by try simp only [List.map_toArray, List.map_cons, List.map_nil]; first | done | rfl) ?_
  refine (hm2 _ hHeld.1).mono ?_
  rintro e w' ⟨rfl, hw⟩
  obtain rfl := hw.symm
  refine ⟨_, rfl, ?_⟩
  refine hK.out _ _ hHeld (fun hHeld => ?_)
  clear hK K
  refine norm_ (a' := ?_) ?_ ?_
  rotate_left
  · show Act.put _ (some 27) _ = _
    simp only [Act.put, List.setIfInBounds_toArray, List.set_cons_zero, List.set_cons_succ]
    rfl
  refine one_ (i := 14) (N := (some 32)) (bm 18 32767) rfl rfl (by kernel_rfl) (by decide) (fun K hK => ?_)
  refine goes_ Tryz.func30 (by kernel_rfl) rfl #[.pointer (some ⟨Wb, 0, none⟩), .int .i64 f3, .int .i64 ctx] (by rfl) rfl rfl (by try simp only [List.map_toArray, List.map_cons, List.map_nil]; first | done | rfl) ?_
  refine (hm3 _ hHeld.1).mono ?_
  rintro e w' ⟨rfl, hw⟩
  obtain rfl := hw.symm
  refine ⟨_, rfl, ?_⟩
  refine hK.out _ _ hHeld (fun hHeld => ?_)
  clear hK K
  refine norm_ (a' := ?_) ?_ ?_
  rotate_left
  · show Act.put _ (some 32) _ = _
    simp only [Act.put, List.setIfInBounds_toArray, List.set_cons_zero, List.set_cons_succ]
    rfl
  refine pu_ 15 (some 8) (bm 18 65535) ?_
  refine pu_ 16 (some 9) (bm 18 131071) ?_
  refine pu_ 17 (some 10) (bm 18 262143) ?_
  refine done_ (by kernel_rfl) ?_
  have hC5 := hHeld.1
  have hX2 := hHeld.2
  have z0 := (blk_cell (blk_below hWb hC5) 0).trans rfl
  have c0 := (blk_cell hX2 0).trans rfl
  have c1 := (blk_cell hX2 1).trans rfl
  have c2 := (blk_cell hX2 2).trans rfl
  have c3 := (blk_cell hX2 3).trans rfl
  have c4 := (blk_cell hX2 4).trans rfl
  have c5 := (blk_cell hX2 5).trans rfl
  go_wp2_with (first
    | (go_at_call 23; (with_reducible refine (hnm _ hHeld.1).mono ?_); rintro e w' ⟨rfl, hw⟩; obtain rfl := hw.symm)
    | (go_at_call 52; (with_reducible refine (hop _ hC5).mono ?_); rintro e w5 ⟨rfl, cl5, h5, s5⟩))
  go_ret2
  exact WoC.yes (WoStep.same hC5) ⟨h5, s5⟩ HF.out
theorem dop10_any {cl : Nat → Nat} {w0 w : World} {Wb F L B calls : Nat} {st : St} (h : WoC cl w0 w Wb F L B calls st) (hO : LayO w) (hT : SgOk st.sg) (f1 f2 f3 f4 : Int) (f5 : ByteArray) (ctx : Int) (hr : rightO ⟨10, f1, f2, f3, f4, f5⟩ = true) :
    Calls Tryz.prog 28 #[.pointer (some ⟨Wb, 0, none⟩), opV ⟨10, f1, f2, f3, f4, f5⟩, .int .i64 ctx] w (WoPost cl w0 w Wb F L B calls (doW calls st ⟨10, f1, f2, f3, f4, f5⟩ ctx)) := by
  have hb := fun Z => below_alloc (Below.refl w.heap.size w) Z
  obtain ⟨v, hWb⟩ := h.wb
  have hri := fun W (hW : Below w.heap.size w W) => oright_any ⟨10, f1, f2, f3, f4, f5⟩ W (hO.below hW)
  rw [hr] at hri
  have hm1 := fun W (hW : Below w.heap.size w W) => meant_any (h.below hW) f1 ctx
  have hm2 := fun W (hW : Below w.heap.size w W) => meant_any (h.below hW) f2 ctx
  have hm3 := fun W (hW : Below w.heap.size w W) => meant_any (h.below hW) f3 ctx
  have hnm := fun W (hW : Below w.heap.size w W) => oname_any 10 W (hO.below hW)
  rw [show nameW 10 = ⟨#[108, 105, 115, 116, 101, 110]⟩ from rfl] at hnm
  have HF : doW calls st ⟨10, f1, f2, f3, f4, f5⟩ ctx = doA calls st ⟨10, f1, f2, f3, f4, f5⟩ (meantF st.ev f1 ctx) (meantF st.ev f2 ctx) (meantF st.ev f3 ctx) := if_neg (by rw [hr]; simp)
  generalize meantF st.ev f1 ctx = a at *
  generalize meantF st.ev f2 ctx = b at *
  generalize meantF st.ev f3 ctx = c at *
  rw [show doA calls st ⟨10, f1, f2, f3, f4, f5⟩ a b c = listenW calls st a ⟨10, f1, f2, f3, f4, f5⟩ from rfl] at HF
  replace HF := hd_ HF
  generalize doW calls st ⟨10, f1, f2, f3, f4, f5⟩ ctx = dr at *
  have hop := fun W (hW : Below w.heap.size w W) => listen_any (h.below hW) hT a ⟨10, f1, f2, f3, f4, f5⟩
  simp only [opV] at hop
  generalize listenW calls st a ⟨10, f1, f2, f3, f4, f5⟩ = r at *
  obtain ⟨r1, r2, r3⟩ := r
  unfold WoPost at hop
  dsimp only at hop
  simp only [opV] at hri ⊢
  clear hr hO hT
  replace h := hd_ h
  go_enter Tryz.func28, Tryz.ntmps28
  go_wp2_with (go_at_call 27; (with_reducible refine (hri _ (hb _)).mono ?_); rintro e w1 ⟨rfl, hB1⟩; have hC1 := below_then (hb _) (hb _).size hB1; have hX1 := blk_below (blk_new w (.cells #[.int .i64 10, .int .i64 f1, .int .i64 f2, .int .i64 f3, .int .i64 f4, .string f5] 39)) hB1)
  refine start_ (n := 18) (S := (fun W_ => Below w.heap.size w W_ ∧ W_.heap[w.heap.size]? = some (.cells #[.int .i64 10, .int .i64 f1, .int .i64 f2, .int .i64 f3, .int .i64 f4, .string f5] 39 (0, 0)))) (ds := []) (bm 18 0) (by kernel_rfl) rfl (by kernel_rfl) ⟨below_drew hC1, hX1⟩ (fun hHeld => ?_)
  refine pu_ 0 (some 18) (bm 18 1) ?_
  refine pu_ 1 (some 19) (bm 18 3) ?_
  refine ta_ 2 (some 20) (bm 18 7) hHeld (fun _ hSw => (blk_cell hSw.2 1).trans rfl) ?_
  refine pu_ 3 (some 21) (bm 18 15) ?_
  refine pu_ 5 (some 23) (bm 18 47) ?_
  refine pu_ 6 (some 24) (bm 18 111) ?_
  refine ta_ 7 (some 25) (bm 18 239) hHeld (fun _ hSw => (blk_cell hSw.2 2).trans rfl) ?_
  refine pu_ 8 (some 26) (bm 18 495) ?_
  refine pu_ 10 (some 28) (bm 18 1519) ?_
  refine pu_ 11 (some 29) (bm 18 3567) ?_
  refine ta_ 12 (some 30) (bm 18 7663) hHeld (fun _ hSw => (blk_cell hSw.2 3).trans rfl) ?_
  refine pu_ 13 (some 31) (bm 18 15855) ?_
  refine one_ (i := 4) (N := (some 22)) (bm 18 15871) rfl rfl (by kernel_rfl) (by decide) (fun K hK => ?_)
  refine goes_ Tryz.func30 (by kernel_rfl) rfl #[.pointer (some ⟨Wb, 0, none⟩), .int .i64 f1, .int .i64 ctx] (by rfl) rfl rfl (by try simp only [List.map_toArray, List.map_cons, List.map_nil]; first | done | rfl) ?_
  refine (hm1 _ hHeld.1).mono ?_
  rintro e w' ⟨rfl, hw⟩
  obtain rfl := hw.symm
  refine ⟨_, rfl, ?_⟩
  refine hK.out _ _ hHeld (fun hHeld => ?_)
  clear hK K
  refine norm_ (a' := ?_) ?_ ?_
  rotate_left
  · show Act.put _ (some 22) _ = _
    simp only [Act.put, List.setIfInBounds_toArray, List.set_cons_zero, List.set_cons_succ]
    rfl
  refine one_ (i := 9) (N := (some 27)) (bm 18 16383) rfl rfl (by kernel_rfl) (by decide) (fun K hK => ?_)
  refine goes_ Tryz.func30 (by kernel_rfl) rfl #[.pointer (some ⟨Wb, 0, none⟩), .int .i64 f2, .int .i64 ctx] (by rfl) rfl rfl (by try simp only [List.map_toArray, List.map_cons, List.map_nil]; first | done | rfl) ?_
  refine (hm2 _ hHeld.1).mono ?_
  rintro e w' ⟨rfl, hw⟩
  obtain rfl := hw.symm
  refine ⟨_, rfl, ?_⟩
  refine hK.out _ _ hHeld (fun hHeld => ?_)
  clear hK K
  refine norm_ (a' := ?_) ?_ ?_
  rotate_left
  · show Act.put _ (some 27) _ = _
    simp only [Act.put, List.setIfInBounds_toArray, List.set_cons_zero, List.set_cons_succ]
    rfl
  refine one_ (i := 14) (N := (some 32)) (bm 18 32767) rfl rfl (by kernel_rfl) (by decide) (fun K hK => ?_)
  refine goes_ Tryz.func30 (by kernel_rfl) rfl #[.pointer (some ⟨Wb, 0, none⟩), .int .i64 f3, .int .i64 ctx] (by rfl) rfl rfl (by try simp only [List.map_toArray, List.map_cons, List.map_nil]; first | done | rfl) ?_
  refine (hm3 _ hHeld.1).mono ?_
  rintro e w' ⟨rfl, hw⟩
  obtain rfl := hw.symm
  refine ⟨_, rfl, ?_⟩
  refine hK.out _ _ hHeld (fun hHeld => ?_)
  clear hK K
  refine norm_ (a' := ?_) ?_ ?_
  rotate_left
  · show Act.put _ (some 32) _ = _
    simp only [Act.put, List.setIfInBounds_toArray, List.set_cons_zero, List.set_cons_succ]
    rfl
  refine pu_ 15 (some 8) (bm 18 65535) ?_
  refine pu_ 16 (some 9) (bm 18 131071) ?_
  refine pu_ 17 (some 10) (bm 18 262143) ?_
  refine done_ (by kernel_rfl) ?_
  have hC5 := hHeld.1
  have hX2 := hHeld.2
  have z0 := (blk_cell (blk_below hWb hC5) 0).trans rfl
  have c0 := (blk_cell hX2 0).trans rfl
  have c1 := (blk_cell hX2 1).trans rfl
  have c2 := (blk_cell hX2 2).trans rfl
  have c3 := (blk_cell hX2 3).trans rfl
  have c4 := (blk_cell hX2 4).trans rfl
  have c5 := (blk_cell hX2 5).trans rfl
  go_wp2_with (first
    | (go_at_call 23; (with_reducible refine (hnm _ hHeld.1).mono ?_); rintro e w' ⟨rfl, hw⟩; obtain rfl := hw.symm)
    | (go_at_call 53; (with_reducible refine (hop _ hC5).mono ?_); rintro e w5 ⟨rfl, cl5, h5, s5⟩))
  go_ret2
  exact WoC.yes (WoStep.same hC5) ⟨h5, s5⟩ HF.out
theorem dop11_any {cl : Nat → Nat} {w0 w : World} {Wb F L B calls : Nat} {st : St} (h : WoC cl w0 w Wb F L B calls st) (hO : LayO w) (hT : SgOk st.sg) (f1 f2 f3 f4 : Int) (f5 : ByteArray) (ctx : Int) (hr : rightO ⟨11, f1, f2, f3, f4, f5⟩ = true) :
    Calls Tryz.prog 28 #[.pointer (some ⟨Wb, 0, none⟩), opV ⟨11, f1, f2, f3, f4, f5⟩, .int .i64 ctx] w (WoPost cl w0 w Wb F L B calls (doW calls st ⟨11, f1, f2, f3, f4, f5⟩ ctx)) := by
  have hb := fun Z => below_alloc (Below.refl w.heap.size w) Z
  obtain ⟨v, hWb⟩ := h.wb
  have hri := fun W (hW : Below w.heap.size w W) => oright_any ⟨11, f1, f2, f3, f4, f5⟩ W (hO.below hW)
  rw [hr] at hri
  have hm1 := fun W (hW : Below w.heap.size w W) => meant_any (h.below hW) f1 ctx
  have hm2 := fun W (hW : Below w.heap.size w W) => meant_any (h.below hW) f2 ctx
  have hm3 := fun W (hW : Below w.heap.size w W) => meant_any (h.below hW) f3 ctx
  have hnm := fun W (hW : Below w.heap.size w W) => oname_any 11 W (hO.below hW)
  rw [show nameW 11 = ⟨#[117, 110, 108, 105, 115, 116, 101, 110]⟩ from rfl] at hnm
  have HF : doW calls st ⟨11, f1, f2, f3, f4, f5⟩ ctx = doA calls st ⟨11, f1, f2, f3, f4, f5⟩ (meantF st.ev f1 ctx) (meantF st.ev f2 ctx) (meantF st.ev f3 ctx) := if_neg (by rw [hr]; simp)
  generalize meantF st.ev f1 ctx = a at *
  generalize meantF st.ev f2 ctx = b at *
  generalize meantF st.ev f3 ctx = c at *
  rw [show doA calls st ⟨11, f1, f2, f3, f4, f5⟩ a b c = unW st a ⟨11, f1, f2, f3, f4, f5⟩ from rfl] at HF
  replace HF := hd_ HF
  generalize doW calls st ⟨11, f1, f2, f3, f4, f5⟩ ctx = dr at *
  have hop := fun W (hW : Below w.heap.size w W) => unlisten_any (h.below hW) a ⟨11, f1, f2, f3, f4, f5⟩
  simp only [opV] at hop
  generalize unW st a ⟨11, f1, f2, f3, f4, f5⟩ = r at *
  obtain ⟨r1, r2, r3⟩ := r
  unfold WoPost at hop
  dsimp only at hop
  simp only [opV] at hri ⊢
  clear hr hO hT
  replace h := hd_ h
  go_enter Tryz.func28, Tryz.ntmps28
  go_wp2_with (go_at_call 27; (with_reducible refine (hri _ (hb _)).mono ?_); rintro e w1 ⟨rfl, hB1⟩; have hC1 := below_then (hb _) (hb _).size hB1; have hX1 := blk_below (blk_new w (.cells #[.int .i64 11, .int .i64 f1, .int .i64 f2, .int .i64 f3, .int .i64 f4, .string f5] 39)) hB1)
  refine start_ (n := 18) (S := (fun W_ => Below w.heap.size w W_ ∧ W_.heap[w.heap.size]? = some (.cells #[.int .i64 11, .int .i64 f1, .int .i64 f2, .int .i64 f3, .int .i64 f4, .string f5] 39 (0, 0)))) (ds := []) (bm 18 0) (by kernel_rfl) rfl (by kernel_rfl) ⟨below_drew hC1, hX1⟩ (fun hHeld => ?_)
  refine pu_ 0 (some 18) (bm 18 1) ?_
  refine pu_ 1 (some 19) (bm 18 3) ?_
  refine ta_ 2 (some 20) (bm 18 7) hHeld (fun _ hSw => (blk_cell hSw.2 1).trans rfl) ?_
  refine pu_ 3 (some 21) (bm 18 15) ?_
  refine pu_ 5 (some 23) (bm 18 47) ?_
  refine pu_ 6 (some 24) (bm 18 111) ?_
  refine ta_ 7 (some 25) (bm 18 239) hHeld (fun _ hSw => (blk_cell hSw.2 2).trans rfl) ?_
  refine pu_ 8 (some 26) (bm 18 495) ?_
  refine pu_ 10 (some 28) (bm 18 1519) ?_
  refine pu_ 11 (some 29) (bm 18 3567) ?_
  refine ta_ 12 (some 30) (bm 18 7663) hHeld (fun _ hSw => (blk_cell hSw.2 3).trans rfl) ?_
  refine pu_ 13 (some 31) (bm 18 15855) ?_
  refine one_ (i := 4) (N := (some 22)) (bm 18 15871) rfl rfl (by kernel_rfl) (by decide) (fun K hK => ?_)
  refine goes_ Tryz.func30 (by kernel_rfl) rfl #[.pointer (some ⟨Wb, 0, none⟩), .int .i64 f1, .int .i64 ctx] (by rfl) rfl rfl (by try simp only [List.map_toArray, List.map_cons, List.map_nil]; first | done | rfl) ?_
  refine (hm1 _ hHeld.1).mono ?_
  rintro e w' ⟨rfl, hw⟩
  obtain rfl := hw.symm
  refine ⟨_, rfl, ?_⟩
  refine hK.out _ _ hHeld (fun hHeld => ?_)
  clear hK K
  refine norm_ (a' := ?_) ?_ ?_
  rotate_left
  · show Act.put _ (some 22) _ = _
    simp only [Act.put, List.setIfInBounds_toArray, List.set_cons_zero, List.set_cons_succ]
    rfl
  refine one_ (i := 9) (N := (some 27)) (bm 18 16383) rfl rfl (by kernel_rfl) (by decide) (fun K hK => ?_)
  refine goes_ Tryz.func30 (by kernel_rfl) rfl #[.pointer (some ⟨Wb, 0, none⟩), .int .i64 f2, .int .i64 ctx] (by rfl) rfl rfl (by try simp only [List.map_toArray, List.map_cons, List.map_nil]; first | done | rfl) ?_
  refine (hm2 _ hHeld.1).mono ?_
  rintro e w' ⟨rfl, hw⟩
  obtain rfl := hw.symm
  refine ⟨_, rfl, ?_⟩
  refine hK.out _ _ hHeld (fun hHeld => ?_)
  clear hK K
  refine norm_ (a' := ?_) ?_ ?_
  rotate_left
  · show Act.put _ (some 27) _ = _
    simp only [Act.put, List.setIfInBounds_toArray, List.set_cons_zero, List.set_cons_succ]
    rfl
  refine one_ (i := 14) (N := (some 32)) (bm 18 32767) rfl rfl (by kernel_rfl) (by decide) (fun K hK => ?_)
  refine goes_ Tryz.func30 (by kernel_rfl) rfl #[.pointer (some ⟨Wb, 0, none⟩), .int .i64 f3, .int .i64 ctx] (by rfl) rfl rfl (by try simp only [List.map_toArray, List.map_cons, List.map_nil]; first | done | rfl) ?_
  refine (hm3 _ hHeld.1).mono ?_
  rintro e w' ⟨rfl, hw⟩
  obtain rfl := hw.symm
  refine ⟨_, rfl, ?_⟩
  refine hK.out _ _ hHeld (fun hHeld => ?_)
  clear hK K
  refine norm_ (a' := ?_) ?_ ?_
  rotate_left
  · show Act.put _ (some 32) _ = _
    simp only [Act.put, List.setIfInBounds_toArray, List.set_cons_zero, List.set_cons_succ]
    rfl
  refine pu_ 15 (some 8) (bm 18 65535) ?_
  refine pu_ 16 (some 9) (bm 18 131071) ?_
  refine pu_ 17 (some 10) (bm 18 262143) ?_
  refine done_ (by kernel_rfl) ?_
  have hC5 := hHeld.1
  have hX2 := hHeld.2
  have z0 := (blk_cell (blk_below hWb hC5) 0).trans rfl
  have c0 := (blk_cell hX2 0).trans rfl
  have c1 := (blk_cell hX2 1).trans rfl
  have c2 := (blk_cell hX2 2).trans rfl
  have c3 := (blk_cell hX2 3).trans rfl
  have c4 := (blk_cell hX2 4).trans rfl
  have c5 := (blk_cell hX2 5).trans rfl
  go_wp2_with (first
    | (go_at_call 23; (with_reducible refine (hnm _ hHeld.1).mono ?_); rintro e w' ⟨rfl, hw⟩; obtain rfl := hw.symm)
    | (go_at_call 54; (with_reducible refine (hop _ hC5).mono ?_); rintro e w5 ⟨rfl, cl5, h5, s5⟩))
  go_ret2
  exact WoC.yes (WoStep.same hC5) ⟨h5, s5⟩ HF.out
theorem dop12_any {cl : Nat → Nat} {w0 w : World} {Wb F L B calls : Nat} {st : St} (h : WoC cl w0 w Wb F L B calls st) (hO : LayO w) (hT : SgOk st.sg) (f1 f2 f3 f4 : Int) (f5 : ByteArray) (ctx : Int) (hr : rightO ⟨12, f1, f2, f3, f4, f5⟩ = true) :
    Calls Tryz.prog 28 #[.pointer (some ⟨Wb, 0, none⟩), opV ⟨12, f1, f2, f3, f4, f5⟩, .int .i64 ctx] w (WoPost cl w0 w Wb F L B calls (doW calls st ⟨12, f1, f2, f3, f4, f5⟩ ctx)) := by
  have hb := fun Z => below_alloc (Below.refl w.heap.size w) Z
  obtain ⟨v, hWb⟩ := h.wb
  have hri := fun W (hW : Below w.heap.size w W) => oright_any ⟨12, f1, f2, f3, f4, f5⟩ W (hO.below hW)
  rw [hr] at hri
  have hm1 := fun W (hW : Below w.heap.size w W) => meant_any (h.below hW) f1 ctx
  have hm2 := fun W (hW : Below w.heap.size w W) => meant_any (h.below hW) f2 ctx
  have hm3 := fun W (hW : Below w.heap.size w W) => meant_any (h.below hW) f3 ctx
  have hnm := fun W (hW : Below w.heap.size w W) => oname_any 12 W (hO.below hW)
  rw [show nameW 12 = ⟨#[101, 118, 101, 110, 116]⟩ from rfl] at hnm
  have HF : doW calls st ⟨12, f1, f2, f3, f4, f5⟩ ctx = doA calls st ⟨12, f1, f2, f3, f4, f5⟩ (meantF st.ev f1 ctx) (meantF st.ev f2 ctx) (meantF st.ev f3 ctx) := if_neg (by rw [hr]; simp)
  generalize meantF st.ev f1 ctx = a at *
  generalize meantF st.ev f2 ctx = b at *
  generalize meantF st.ev f3 ctx = c at *
  rw [show doA calls st ⟨12, f1, f2, f3, f4, f5⟩ a b c = evW st b ⟨12, f1, f2, f3, f4, f5⟩ from rfl] at HF
  replace HF := hd_ HF
  generalize doW calls st ⟨12, f1, f2, f3, f4, f5⟩ ctx = dr at *
  have hop := fun W (hW : Below w.heap.size w W) => event_op (h.below hW) b ⟨12, f1, f2, f3, f4, f5⟩
  simp only [opV] at hop
  generalize evW st b ⟨12, f1, f2, f3, f4, f5⟩ = r at *
  obtain ⟨r1, r2, r3⟩ := r
  unfold WoPost at hop
  dsimp only at hop
  simp only [opV] at hri ⊢
  clear hr hO hT
  replace h := hd_ h
  go_enter Tryz.func28, Tryz.ntmps28
  go_wp2_with (go_at_call 27; (with_reducible refine (hri _ (hb _)).mono ?_); rintro e w1 ⟨rfl, hB1⟩; have hC1 := below_then (hb _) (hb _).size hB1; have hX1 := blk_below (blk_new w (.cells #[.int .i64 12, .int .i64 f1, .int .i64 f2, .int .i64 f3, .int .i64 f4, .string f5] 39)) hB1)
  refine start_ (n := 18) (S := (fun W_ => Below w.heap.size w W_ ∧ W_.heap[w.heap.size]? = some (.cells #[.int .i64 12, .int .i64 f1, .int .i64 f2, .int .i64 f3, .int .i64 f4, .string f5] 39 (0, 0)))) (ds := []) (bm 18 0) (by kernel_rfl) rfl (by kernel_rfl) ⟨below_drew hC1, hX1⟩ (fun hHeld => ?_)
  refine pu_ 0 (some 18) (bm 18 1) ?_
  refine pu_ 1 (some 19) (bm 18 3) ?_
  refine ta_ 2 (some 20) (bm 18 7) hHeld (fun _ hSw => (blk_cell hSw.2 1).trans rfl) ?_
  refine pu_ 3 (some 21) (bm 18 15) ?_
  refine pu_ 5 (some 23) (bm 18 47) ?_
  refine pu_ 6 (some 24) (bm 18 111) ?_
  refine ta_ 7 (some 25) (bm 18 239) hHeld (fun _ hSw => (blk_cell hSw.2 2).trans rfl) ?_
  refine pu_ 8 (some 26) (bm 18 495) ?_
  refine pu_ 10 (some 28) (bm 18 1519) ?_
  refine pu_ 11 (some 29) (bm 18 3567) ?_
  refine ta_ 12 (some 30) (bm 18 7663) hHeld (fun _ hSw => (blk_cell hSw.2 3).trans rfl) ?_
  refine pu_ 13 (some 31) (bm 18 15855) ?_
  refine one_ (i := 4) (N := (some 22)) (bm 18 15871) rfl rfl (by kernel_rfl) (by decide) (fun K hK => ?_)
  refine goes_ Tryz.func30 (by kernel_rfl) rfl #[.pointer (some ⟨Wb, 0, none⟩), .int .i64 f1, .int .i64 ctx] (by rfl) rfl rfl (by try simp only [List.map_toArray, List.map_cons, List.map_nil]; first | done | rfl) ?_
  refine (hm1 _ hHeld.1).mono ?_
  rintro e w' ⟨rfl, hw⟩
  obtain rfl := hw.symm
  refine ⟨_, rfl, ?_⟩
  refine hK.out _ _ hHeld (fun hHeld => ?_)
  clear hK K
  refine norm_ (a' := ?_) ?_ ?_
  rotate_left
  · show Act.put _ (some 22) _ = _
    simp only [Act.put, List.setIfInBounds_toArray, List.set_cons_zero, List.set_cons_succ]
    rfl
  refine one_ (i := 9) (N := (some 27)) (bm 18 16383) rfl rfl (by kernel_rfl) (by decide) (fun K hK => ?_)
  refine goes_ Tryz.func30 (by kernel_rfl) rfl #[.pointer (some ⟨Wb, 0, none⟩), .int .i64 f2, .int .i64 ctx] (by rfl) rfl rfl (by try simp only [List.map_toArray, List.map_cons, List.map_nil]; first | done | rfl) ?_
  refine (hm2 _ hHeld.1).mono ?_
  rintro e w' ⟨rfl, hw⟩
  obtain rfl := hw.symm
  refine ⟨_, rfl, ?_⟩
  refine hK.out _ _ hHeld (fun hHeld => ?_)
  clear hK K
  refine norm_ (a' := ?_) ?_ ?_
  rotate_left
  · show Act.put _ (some 27) _ = _
    simp only [Act.put, List.setIfInBounds_toArray, List.set_cons_zero, List.set_cons_succ]
    rfl
  refine one_ (i := 14) (N := (some 32)) (bm 18 32767) rfl rfl (by kernel_rfl) (by decide) (fun K hK => ?_)
  refine goes_ Tryz.func30 (by kernel_rfl) rfl #[.pointer (some ⟨Wb, 0, none⟩), .int .i64 f3, .int .i64 ctx] (by rfl) rfl rfl (by try simp only [List.map_toArray, List.map_cons, List.map_nil]; first | done | rfl) ?_
  refine (hm3 _ hHeld.1).mono ?_
  rintro e w' ⟨rfl, hw⟩
  obtain rfl := hw.symm
  refine ⟨_, rfl, ?_⟩
  refine hK.out _ _ hHeld (fun hHeld => ?_)
  clear hK K
  refine norm_ (a' := ?_) ?_ ?_
  rotate_left
  · show Act.put _ (some 32) _ = _
    simp only [Act.put, List.setIfInBounds_toArray, List.set_cons_zero, List.set_cons_succ]
    rfl
  refine pu_ 15 (some 8) (bm 18 65535) ?_
  refine pu_ 16 (some 9) (bm 18 131071) ?_
  refine pu_ 17 (some 10) (bm 18 262143) ?_
  refine done_ (by kernel_rfl) ?_
  have hC5 := hHeld.1
  have hX2 := hHeld.2
  have z0 := (blk_cell (blk_below hWb hC5) 0).trans rfl
  have c0 := (blk_cell hX2 0).trans rfl
  have c1 := (blk_cell hX2 1).trans rfl
  have c2 := (blk_cell hX2 2).trans rfl
  have c3 := (blk_cell hX2 3).trans rfl
  have c4 := (blk_cell hX2 4).trans rfl
  have c5 := (blk_cell hX2 5).trans rfl
  go_wp2_with (first
    | (go_at_call 23; (with_reducible refine (hnm _ hHeld.1).mono ?_); rintro e w' ⟨rfl, hw⟩; obtain rfl := hw.symm)
    | (go_at_call 55; (with_reducible refine (hop _ hC5).mono ?_); rintro e w5 ⟨rfl, cl5, h5, s5⟩))
  go_ret2
  exact WoC.yes (WoStep.same hC5) ⟨h5, s5⟩ HF.out
theorem dop13_any {cl : Nat → Nat} {w0 w : World} {Wb F L B calls : Nat} {st : St} (h : WoC cl w0 w Wb F L B calls st) (hO : LayO w) (hT : SgOk st.sg) (f1 f2 f3 f4 : Int) (f5 : ByteArray) (ctx : Int) (hr : rightO ⟨13, f1, f2, f3, f4, f5⟩ = true) :
    Calls Tryz.prog 28 #[.pointer (some ⟨Wb, 0, none⟩), opV ⟨13, f1, f2, f3, f4, f5⟩, .int .i64 ctx] w (WoPost cl w0 w Wb F L B calls (doW calls st ⟨13, f1, f2, f3, f4, f5⟩ ctx)) := by
  have hb := fun Z => below_alloc (Below.refl w.heap.size w) Z
  obtain ⟨v, hWb⟩ := h.wb
  have hri := fun W (hW : Below w.heap.size w W) => oright_any ⟨13, f1, f2, f3, f4, f5⟩ W (hO.below hW)
  rw [hr] at hri
  have hm1 := fun W (hW : Below w.heap.size w W) => meant_any (h.below hW) f1 ctx
  have hm2 := fun W (hW : Below w.heap.size w W) => meant_any (h.below hW) f2 ctx
  have hm3 := fun W (hW : Below w.heap.size w W) => meant_any (h.below hW) f3 ctx
  have hnm := fun W (hW : Below w.heap.size w W) => oname_any 13 W (hO.below hW)
  rw [show nameW 13 = ⟨#[115, 101, 110, 100]⟩ from rfl] at hnm
  have HF : doW calls st ⟨13, f1, f2, f3, f4, f5⟩ ctx = doA calls st ⟨13, f1, f2, f3, f4, f5⟩ (meantF st.ev f1 ctx) (meantF st.ev f2 ctx) (meantF st.ev f3 ctx) := if_neg (by rw [hr]; simp)
  generalize meantF st.ev f1 ctx = a at *
  generalize meantF st.ev f2 ctx = b at *
  generalize meantF st.ev f3 ctx = c at *
  rw [show doA calls st ⟨13, f1, f2, f3, f4, f5⟩ a b c = (st, 0, 5) from rfl] at HF
  replace HF := hd_ HF
  generalize doW calls st ⟨13, f1, f2, f3, f4, f5⟩ ctx = dr at *

  simp only [opV] at hri ⊢
  clear hr hO hT
  replace h := hd_ h
  go_enter Tryz.func28, Tryz.ntmps28
  go_wp2_with (go_at_call 27; (with_reducible refine (hri _ (hb _)).mono ?_); rintro e w1 ⟨rfl, hB1⟩; have hC1 := below_then (hb _) (hb _).size hB1; have hX1 := blk_below (blk_new w (.cells #[.int .i64 13, .int .i64 f1, .int .i64 f2, .int .i64 f3, .int .i64 f4, .string f5] 39)) hB1)
  refine start_ (n := 18) (S := (fun W_ => Below w.heap.size w W_ ∧ W_.heap[w.heap.size]? = some (.cells #[.int .i64 13, .int .i64 f1, .int .i64 f2, .int .i64 f3, .int .i64 f4, .string f5] 39 (0, 0)))) (ds := []) (bm 18 0) (by kernel_rfl) rfl (by kernel_rfl) ⟨below_drew hC1, hX1⟩ (fun hHeld => ?_)
  refine pu_ 0 (some 18) (bm 18 1) ?_
  refine pu_ 1 (some 19) (bm 18 3) ?_
  refine ta_ 2 (some 20) (bm 18 7) hHeld (fun _ hSw => (blk_cell hSw.2 1).trans rfl) ?_
  refine pu_ 3 (some 21) (bm 18 15) ?_
  refine pu_ 5 (some 23) (bm 18 47) ?_
  refine pu_ 6 (some 24) (bm 18 111) ?_
  refine ta_ 7 (some 25) (bm 18 239) hHeld (fun _ hSw => (blk_cell hSw.2 2).trans rfl) ?_
  refine pu_ 8 (some 26) (bm 18 495) ?_
  refine pu_ 10 (some 28) (bm 18 1519) ?_
  refine pu_ 11 (some 29) (bm 18 3567) ?_
  refine ta_ 12 (some 30) (bm 18 7663) hHeld (fun _ hSw => (blk_cell hSw.2 3).trans rfl) ?_
  refine pu_ 13 (some 31) (bm 18 15855) ?_
  refine one_ (i := 4) (N := (some 22)) (bm 18 15871) rfl rfl (by kernel_rfl) (by decide) (fun K hK => ?_)
  refine goes_ Tryz.func30 (by kernel_rfl) rfl #[.pointer (some ⟨Wb, 0, none⟩), .int .i64 f1, .int .i64 ctx] (by rfl) rfl rfl (by try simp only [List.map_toArray, List.map_cons, List.map_nil]; first | done | rfl) ?_
  refine (hm1 _ hHeld.1).mono ?_
  rintro e w' ⟨rfl, hw⟩
  obtain rfl := hw.symm
  refine ⟨_, rfl, ?_⟩
  refine hK.out _ _ hHeld (fun hHeld => ?_)
  clear hK K
  refine norm_ (a' := ?_) ?_ ?_
  rotate_left
  · show Act.put _ (some 22) _ = _
    simp only [Act.put, List.setIfInBounds_toArray, List.set_cons_zero, List.set_cons_succ]
    rfl
  refine one_ (i := 9) (N := (some 27)) (bm 18 16383) rfl rfl (by kernel_rfl) (by decide) (fun K hK => ?_)
  refine goes_ Tryz.func30 (by kernel_rfl) rfl #[.pointer (some ⟨Wb, 0, none⟩), .int .i64 f2, .int .i64 ctx] (by rfl) rfl rfl (by try simp only [List.map_toArray, List.map_cons, List.map_nil]; first | done | rfl) ?_
  refine (hm2 _ hHeld.1).mono ?_
  rintro e w' ⟨rfl, hw⟩
  obtain rfl := hw.symm
  refine ⟨_, rfl, ?_⟩
  refine hK.out _ _ hHeld (fun hHeld => ?_)
  clear hK K
  refine norm_ (a' := ?_) ?_ ?_
  rotate_left
  · show Act.put _ (some 27) _ = _
    simp only [Act.put, List.setIfInBounds_toArray, List.set_cons_zero, List.set_cons_succ]
    rfl
  refine one_ (i := 14) (N := (some 32)) (bm 18 32767) rfl rfl (by kernel_rfl) (by decide) (fun K hK => ?_)
  refine goes_ Tryz.func30 (by kernel_rfl) rfl #[.pointer (some ⟨Wb, 0, none⟩), .int .i64 f3, .int .i64 ctx] (by rfl) rfl rfl (by try simp only [List.map_toArray, List.map_cons, List.map_nil]; first | done | rfl) ?_
  refine (hm3 _ hHeld.1).mono ?_
  rintro e w' ⟨rfl, hw⟩
  obtain rfl := hw.symm
  refine ⟨_, rfl, ?_⟩
  refine hK.out _ _ hHeld (fun hHeld => ?_)
  clear hK K
  refine norm_ (a' := ?_) ?_ ?_
  rotate_left
  · show Act.put _ (some 32) _ = _
    simp only [Act.put, List.setIfInBounds_toArray, List.set_cons_zero, List.set_cons_succ]
    rfl
  refine pu_ 15 (some 8) (bm 18 65535) ?_
  refine pu_ 16 (some 9) (bm 18 131071) ?_
  refine pu_ 17 (some 10) (bm 18 262143) ?_
  refine done_ (by kernel_rfl) ?_
  have hC5 := hHeld.1
  have hX2 := hHeld.2
  have z0 := (blk_cell (blk_below hWb hC5) 0).trans rfl
  have c0 := (blk_cell hX2 0).trans rfl
  have c1 := (blk_cell hX2 1).trans rfl
  have c2 := (blk_cell hX2 2).trans rfl
  have c3 := (blk_cell hX2 3).trans rfl
  have c4 := (blk_cell hX2 4).trans rfl
  have c5 := (blk_cell hX2 5).trans rfl
  go_wp2_with (go_at_call 23; (with_reducible refine (hnm _ hHeld.1).mono ?_); rintro e w' ⟨rfl, hw⟩; obtain rfl := hw.symm)
  go_ret2
  exact h.out.no HF.out hHeld.1
theorem dop14_any {cl : Nat → Nat} {w0 w : World} {Wb F L B calls : Nat} {st : St} (h : WoC cl w0 w Wb F L B calls st) (hO : LayO w) (hT : SgOk st.sg) (f1 f2 f3 f4 : Int) (f5 : ByteArray) (ctx : Int) (hr : rightO ⟨14, f1, f2, f3, f4, f5⟩ = true) :
    Calls Tryz.prog 28 #[.pointer (some ⟨Wb, 0, none⟩), opV ⟨14, f1, f2, f3, f4, f5⟩, .int .i64 ctx] w (WoPost cl w0 w Wb F L B calls (doW calls st ⟨14, f1, f2, f3, f4, f5⟩ ctx)) := by
  have hb := fun Z => below_alloc (Below.refl w.heap.size w) Z
  obtain ⟨v, hWb⟩ := h.wb
  have hri := fun W (hW : Below w.heap.size w W) => oright_any ⟨14, f1, f2, f3, f4, f5⟩ W (hO.below hW)
  rw [hr] at hri
  have hm1 := fun W (hW : Below w.heap.size w W) => meant_any (h.below hW) f1 ctx
  have hm2 := fun W (hW : Below w.heap.size w W) => meant_any (h.below hW) f2 ctx
  have hm3 := fun W (hW : Below w.heap.size w W) => meant_any (h.below hW) f3 ctx
  have hnm := fun W (hW : Below w.heap.size w W) => oname_any 14 W (hO.below hW)
  rw [show nameW 14 = ⟨#[112, 114, 101, 118, 101, 110, 116]⟩ from rfl] at hnm
  have HF : doW calls st ⟨14, f1, f2, f3, f4, f5⟩ ctx = doA calls st ⟨14, f1, f2, f3, f4, f5⟩ (meantF st.ev f1 ctx) (meantF st.ev f2 ctx) (meantF st.ev f3 ctx) := if_neg (by rw [hr]; simp)
  generalize meantF st.ev f1 ctx = a at *
  generalize meantF st.ev f2 ctx = b at *
  generalize meantF st.ev f3 ctx = c at *
  rw [show doA calls st ⟨14, f1, f2, f3, f4, f5⟩ a b c = flagW st a 14 from rfl] at HF
  replace HF := hd_ HF
  generalize doW calls st ⟨14, f1, f2, f3, f4, f5⟩ ctx = dr at *
  have hop := fun W (hW : Below w.heap.size w W) => flag14_any (h.below hW) (hO.below hW) a
  generalize flagW st a 14 = r at *
  obtain ⟨r1, r2, r3⟩ := r
  unfold WoPost at hop
  dsimp only at hop
  simp only [opV] at hri ⊢
  clear hr hO hT
  replace h := hd_ h
  go_enter Tryz.func28, Tryz.ntmps28
  go_wp2_with (go_at_call 27; (with_reducible refine (hri _ (hb _)).mono ?_); rintro e w1 ⟨rfl, hB1⟩; have hC1 := below_then (hb _) (hb _).size hB1; have hX1 := blk_below (blk_new w (.cells #[.int .i64 14, .int .i64 f1, .int .i64 f2, .int .i64 f3, .int .i64 f4, .string f5] 39)) hB1)
  refine start_ (n := 18) (S := (fun W_ => Below w.heap.size w W_ ∧ W_.heap[w.heap.size]? = some (.cells #[.int .i64 14, .int .i64 f1, .int .i64 f2, .int .i64 f3, .int .i64 f4, .string f5] 39 (0, 0)))) (ds := []) (bm 18 0) (by kernel_rfl) rfl (by kernel_rfl) ⟨below_drew hC1, hX1⟩ (fun hHeld => ?_)
  refine pu_ 0 (some 18) (bm 18 1) ?_
  refine pu_ 1 (some 19) (bm 18 3) ?_
  refine ta_ 2 (some 20) (bm 18 7) hHeld (fun _ hSw => (blk_cell hSw.2 1).trans rfl) ?_
  refine pu_ 3 (some 21) (bm 18 15) ?_
  refine pu_ 5 (some 23) (bm 18 47) ?_
  refine pu_ 6 (some 24) (bm 18 111) ?_
  refine ta_ 7 (some 25) (bm 18 239) hHeld (fun _ hSw => (blk_cell hSw.2 2).trans rfl) ?_
  refine pu_ 8 (some 26) (bm 18 495) ?_
  refine pu_ 10 (some 28) (bm 18 1519) ?_
  refine pu_ 11 (some 29) (bm 18 3567) ?_
  refine ta_ 12 (some 30) (bm 18 7663) hHeld (fun _ hSw => (blk_cell hSw.2 3).trans rfl) ?_
  refine pu_ 13 (some 31) (bm 18 15855) ?_
  refine one_ (i := 4) (N := (some 22)) (bm 18 15871) rfl rfl (by kernel_rfl) (by decide) (fun K hK => ?_)
  refine goes_ Tryz.func30 (by kernel_rfl) rfl #[.pointer (some ⟨Wb, 0, none⟩), .int .i64 f1, .int .i64 ctx] (by rfl) rfl rfl (by try simp only [List.map_toArray, List.map_cons, List.map_nil]; first | done | rfl) ?_
  refine (hm1 _ hHeld.1).mono ?_
  rintro e w' ⟨rfl, hw⟩
  obtain rfl := hw.symm
  refine ⟨_, rfl, ?_⟩
  refine hK.out _ _ hHeld (fun hHeld => ?_)
  clear hK K
  refine norm_ (a' := ?_) ?_ ?_
  rotate_left
  · show Act.put _ (some 22) _ = _
    simp only [Act.put, List.setIfInBounds_toArray, List.set_cons_zero, List.set_cons_succ]
    rfl
  refine one_ (i := 9) (N := (some 27)) (bm 18 16383) rfl rfl (by kernel_rfl) (by decide) (fun K hK => ?_)
  refine goes_ Tryz.func30 (by kernel_rfl) rfl #[.pointer (some ⟨Wb, 0, none⟩), .int .i64 f2, .int .i64 ctx] (by rfl) rfl rfl (by try simp only [List.map_toArray, List.map_cons, List.map_nil]; first | done | rfl) ?_
  refine (hm2 _ hHeld.1).mono ?_
  rintro e w' ⟨rfl, hw⟩
  obtain rfl := hw.symm
  refine ⟨_, rfl, ?_⟩
  refine hK.out _ _ hHeld (fun hHeld => ?_)
  clear hK K
  refine norm_ (a' := ?_) ?_ ?_
  rotate_left
  · show Act.put _ (some 27) _ = _
    simp only [Act.put, List.setIfInBounds_toArray, List.set_cons_zero, List.set_cons_succ]
    rfl
  refine one_ (i := 14) (N := (some 32)) (bm 18 32767) rfl rfl (by kernel_rfl) (by decide) (fun K hK => ?_)
  refine goes_ Tryz.func30 (by kernel_rfl) rfl #[.pointer (some ⟨Wb, 0, none⟩), .int .i64 f3, .int .i64 ctx] (by rfl) rfl rfl (by try simp only [List.map_toArray, List.map_cons, List.map_nil]; first | done | rfl) ?_
  refine (hm3 _ hHeld.1).mono ?_
  rintro e w' ⟨rfl, hw⟩
  obtain rfl := hw.symm
  refine ⟨_, rfl, ?_⟩
  refine hK.out _ _ hHeld (fun hHeld => ?_)
  clear hK K
  refine norm_ (a' := ?_) ?_ ?_
  rotate_left
  · show Act.put _ (some 32) _ = _
    simp only [Act.put, List.setIfInBounds_toArray, List.set_cons_zero, List.set_cons_succ]
    rfl
  refine pu_ 15 (some 8) (bm 18 65535) ?_
  refine pu_ 16 (some 9) (bm 18 131071) ?_
  refine pu_ 17 (some 10) (bm 18 262143) ?_
  refine done_ (by kernel_rfl) ?_
  have hC5 := hHeld.1
  have hX2 := hHeld.2
  have z0 := (blk_cell (blk_below hWb hC5) 0).trans rfl
  have c0 := (blk_cell hX2 0).trans rfl
  have c1 := (blk_cell hX2 1).trans rfl
  have c2 := (blk_cell hX2 2).trans rfl
  have c3 := (blk_cell hX2 3).trans rfl
  have c4 := (blk_cell hX2 4).trans rfl
  have c5 := (blk_cell hX2 5).trans rfl
  go_wp2_with (first
    | (go_at_call 23; (with_reducible refine (hnm _ hHeld.1).mono ?_); rintro e w' ⟨rfl, hw⟩; obtain rfl := hw.symm)
    | (go_at_call 56; (with_reducible refine (hop _ hC5).mono ?_); rintro e w5 ⟨rfl, cl5, h5, s5⟩))
  go_ret2
  exact WoC.yes (WoStep.same hC5) ⟨h5, s5⟩ HF.out
theorem dop15_any {cl : Nat → Nat} {w0 w : World} {Wb F L B calls : Nat} {st : St} (h : WoC cl w0 w Wb F L B calls st) (hO : LayO w) (hT : SgOk st.sg) (f1 f2 f3 f4 : Int) (f5 : ByteArray) (ctx : Int) (hr : rightO ⟨15, f1, f2, f3, f4, f5⟩ = true) :
    Calls Tryz.prog 28 #[.pointer (some ⟨Wb, 0, none⟩), opV ⟨15, f1, f2, f3, f4, f5⟩, .int .i64 ctx] w (WoPost cl w0 w Wb F L B calls (doW calls st ⟨15, f1, f2, f3, f4, f5⟩ ctx)) := by
  have hb := fun Z => below_alloc (Below.refl w.heap.size w) Z
  obtain ⟨v, hWb⟩ := h.wb
  have hri := fun W (hW : Below w.heap.size w W) => oright_any ⟨15, f1, f2, f3, f4, f5⟩ W (hO.below hW)
  rw [hr] at hri
  have hm1 := fun W (hW : Below w.heap.size w W) => meant_any (h.below hW) f1 ctx
  have hm2 := fun W (hW : Below w.heap.size w W) => meant_any (h.below hW) f2 ctx
  have hm3 := fun W (hW : Below w.heap.size w W) => meant_any (h.below hW) f3 ctx
  have hnm := fun W (hW : Below w.heap.size w W) => oname_any 15 W (hO.below hW)
  rw [show nameW 15 = ⟨#[115, 116, 111, 112]⟩ from rfl] at hnm
  have HF : doW calls st ⟨15, f1, f2, f3, f4, f5⟩ ctx = doA calls st ⟨15, f1, f2, f3, f4, f5⟩ (meantF st.ev f1 ctx) (meantF st.ev f2 ctx) (meantF st.ev f3 ctx) := if_neg (by rw [hr]; simp)
  generalize meantF st.ev f1 ctx = a at *
  generalize meantF st.ev f2 ctx = b at *
  generalize meantF st.ev f3 ctx = c at *
  rw [show doA calls st ⟨15, f1, f2, f3, f4, f5⟩ a b c = flagW st a 15 from rfl] at HF
  replace HF := hd_ HF
  generalize doW calls st ⟨15, f1, f2, f3, f4, f5⟩ ctx = dr at *
  have hop := fun W (hW : Below w.heap.size w W) => flag15_any (h.below hW) (hO.below hW) a
  generalize flagW st a 15 = r at *
  obtain ⟨r1, r2, r3⟩ := r
  unfold WoPost at hop
  dsimp only at hop
  simp only [opV] at hri ⊢
  clear hr hO hT
  replace h := hd_ h
  go_enter Tryz.func28, Tryz.ntmps28
  go_wp2_with (go_at_call 27; (with_reducible refine (hri _ (hb _)).mono ?_); rintro e w1 ⟨rfl, hB1⟩; have hC1 := below_then (hb _) (hb _).size hB1; have hX1 := blk_below (blk_new w (.cells #[.int .i64 15, .int .i64 f1, .int .i64 f2, .int .i64 f3, .int .i64 f4, .string f5] 39)) hB1)
  refine start_ (n := 18) (S := (fun W_ => Below w.heap.size w W_ ∧ W_.heap[w.heap.size]? = some (.cells #[.int .i64 15, .int .i64 f1, .int .i64 f2, .int .i64 f3, .int .i64 f4, .string f5] 39 (0, 0)))) (ds := []) (bm 18 0) (by kernel_rfl) rfl (by kernel_rfl) ⟨below_drew hC1, hX1⟩ (fun hHeld => ?_)
  refine pu_ 0 (some 18) (bm 18 1) ?_
  refine pu_ 1 (some 19) (bm 18 3) ?_
  refine ta_ 2 (some 20) (bm 18 7) hHeld (fun _ hSw => (blk_cell hSw.2 1).trans rfl) ?_
  refine pu_ 3 (some 21) (bm 18 15) ?_
  refine pu_ 5 (some 23) (bm 18 47) ?_
  refine pu_ 6 (some 24) (bm 18 111) ?_
  refine ta_ 7 (some 25) (bm 18 239) hHeld (fun _ hSw => (blk_cell hSw.2 2).trans rfl) ?_
  refine pu_ 8 (some 26) (bm 18 495) ?_
  refine pu_ 10 (some 28) (bm 18 1519) ?_
  refine pu_ 11 (some 29) (bm 18 3567) ?_
  refine ta_ 12 (some 30) (bm 18 7663) hHeld (fun _ hSw => (blk_cell hSw.2 3).trans rfl) ?_
  refine pu_ 13 (some 31) (bm 18 15855) ?_
  refine one_ (i := 4) (N := (some 22)) (bm 18 15871) rfl rfl (by kernel_rfl) (by decide) (fun K hK => ?_)
  refine goes_ Tryz.func30 (by kernel_rfl) rfl #[.pointer (some ⟨Wb, 0, none⟩), .int .i64 f1, .int .i64 ctx] (by rfl) rfl rfl (by try simp only [List.map_toArray, List.map_cons, List.map_nil]; first | done | rfl) ?_
  refine (hm1 _ hHeld.1).mono ?_
  rintro e w' ⟨rfl, hw⟩
  obtain rfl := hw.symm
  refine ⟨_, rfl, ?_⟩
  refine hK.out _ _ hHeld (fun hHeld => ?_)
  clear hK K
  refine norm_ (a' := ?_) ?_ ?_
  rotate_left
  · show Act.put _ (some 22) _ = _
    simp only [Act.put, List.setIfInBounds_toArray, List.set_cons_zero, List.set_cons_succ]
    rfl
  refine one_ (i := 9) (N := (some 27)) (bm 18 16383) rfl rfl (by kernel_rfl) (by decide) (fun K hK => ?_)
  refine goes_ Tryz.func30 (by kernel_rfl) rfl #[.pointer (some ⟨Wb, 0, none⟩), .int .i64 f2, .int .i64 ctx] (by rfl) rfl rfl (by try simp only [List.map_toArray, List.map_cons, List.map_nil]; first | done | rfl) ?_
  refine (hm2 _ hHeld.1).mono ?_
  rintro e w' ⟨rfl, hw⟩
  obtain rfl := hw.symm
  refine ⟨_, rfl, ?_⟩
  refine hK.out _ _ hHeld (fun hHeld => ?_)
  clear hK K
  refine norm_ (a' := ?_) ?_ ?_
  rotate_left
  · show Act.put _ (some 27) _ = _
    simp only [Act.put, List.setIfInBounds_toArray, List.set_cons_zero, List.set_cons_succ]
    rfl
  refine one_ (i := 14) (N := (some 32)) (bm 18 32767) rfl rfl (by kernel_rfl) (by decide) (fun K hK => ?_)
  refine goes_ Tryz.func30 (by kernel_rfl) rfl #[.pointer (some ⟨Wb, 0, none⟩), .int .i64 f3, .int .i64 ctx] (by rfl) rfl rfl (by try simp only [List.map_toArray, List.map_cons, List.map_nil]; first | done | rfl) ?_
  refine (hm3 _ hHeld.1).mono ?_
  rintro e w' ⟨rfl, hw⟩
  obtain rfl := hw.symm
  refine ⟨_, rfl, ?_⟩
  refine hK.out _ _ hHeld (fun hHeld => ?_)
  clear hK K
  refine norm_ (a' := ?_) ?_ ?_
  rotate_left
  · show Act.put _ (some 32) _ = _
    simp only [Act.put, List.setIfInBounds_toArray, List.set_cons_zero, List.set_cons_succ]
    rfl
  refine pu_ 15 (some 8) (bm 18 65535) ?_
  refine pu_ 16 (some 9) (bm 18 131071) ?_
  refine pu_ 17 (some 10) (bm 18 262143) ?_
  refine done_ (by kernel_rfl) ?_
  have hC5 := hHeld.1
  have hX2 := hHeld.2
  have z0 := (blk_cell (blk_below hWb hC5) 0).trans rfl
  have c0 := (blk_cell hX2 0).trans rfl
  have c1 := (blk_cell hX2 1).trans rfl
  have c2 := (blk_cell hX2 2).trans rfl
  have c3 := (blk_cell hX2 3).trans rfl
  have c4 := (blk_cell hX2 4).trans rfl
  have c5 := (blk_cell hX2 5).trans rfl
  go_wp2_with (first
    | (go_at_call 23; (with_reducible refine (hnm _ hHeld.1).mono ?_); rintro e w' ⟨rfl, hw⟩; obtain rfl := hw.symm)
    | (go_at_call 56; (with_reducible refine (hop _ hC5).mono ?_); rintro e w5 ⟨rfl, cl5, h5, s5⟩))
  go_ret2
  exact WoC.yes (WoStep.same hC5) ⟨h5, s5⟩ HF.out
theorem dop16_any {cl : Nat → Nat} {w0 w : World} {Wb F L B calls : Nat} {st : St} (h : WoC cl w0 w Wb F L B calls st) (hO : LayO w) (hT : SgOk st.sg) (f1 f2 f3 f4 : Int) (f5 : ByteArray) (ctx : Int) (hr : rightO ⟨16, f1, f2, f3, f4, f5⟩ = true) :
    Calls Tryz.prog 28 #[.pointer (some ⟨Wb, 0, none⟩), opV ⟨16, f1, f2, f3, f4, f5⟩, .int .i64 ctx] w (WoPost cl w0 w Wb F L B calls (doW calls st ⟨16, f1, f2, f3, f4, f5⟩ ctx)) := by
  have hb := fun Z => below_alloc (Below.refl w.heap.size w) Z
  obtain ⟨v, hWb⟩ := h.wb
  have hri := fun W (hW : Below w.heap.size w W) => oright_any ⟨16, f1, f2, f3, f4, f5⟩ W (hO.below hW)
  rw [hr] at hri
  have hm1 := fun W (hW : Below w.heap.size w W) => meant_any (h.below hW) f1 ctx
  have hm2 := fun W (hW : Below w.heap.size w W) => meant_any (h.below hW) f2 ctx
  have hm3 := fun W (hW : Below w.heap.size w W) => meant_any (h.below hW) f3 ctx
  have hnm := fun W (hW : Below w.heap.size w W) => oname_any 16 W (hO.below hW)
  rw [show nameW 16 = ⟨#[115, 116, 111, 112, 110, 111, 119]⟩ from rfl] at hnm
  have HF : doW calls st ⟨16, f1, f2, f3, f4, f5⟩ ctx = doA calls st ⟨16, f1, f2, f3, f4, f5⟩ (meantF st.ev f1 ctx) (meantF st.ev f2 ctx) (meantF st.ev f3 ctx) := if_neg (by rw [hr]; simp)
  generalize meantF st.ev f1 ctx = a at *
  generalize meantF st.ev f2 ctx = b at *
  generalize meantF st.ev f3 ctx = c at *
  rw [show doA calls st ⟨16, f1, f2, f3, f4, f5⟩ a b c = flagW st a 16 from rfl] at HF
  replace HF := hd_ HF
  generalize doW calls st ⟨16, f1, f2, f3, f4, f5⟩ ctx = dr at *
  have hop := fun W (hW : Below w.heap.size w W) => flag16_any (h.below hW) (hO.below hW) a
  generalize flagW st a 16 = r at *
  obtain ⟨r1, r2, r3⟩ := r
  unfold WoPost at hop
  dsimp only at hop
  simp only [opV] at hri ⊢
  clear hr hO hT
  replace h := hd_ h
  go_enter Tryz.func28, Tryz.ntmps28
  go_wp2_with (go_at_call 27; (with_reducible refine (hri _ (hb _)).mono ?_); rintro e w1 ⟨rfl, hB1⟩; have hC1 := below_then (hb _) (hb _).size hB1; have hX1 := blk_below (blk_new w (.cells #[.int .i64 16, .int .i64 f1, .int .i64 f2, .int .i64 f3, .int .i64 f4, .string f5] 39)) hB1)
  refine start_ (n := 18) (S := (fun W_ => Below w.heap.size w W_ ∧ W_.heap[w.heap.size]? = some (.cells #[.int .i64 16, .int .i64 f1, .int .i64 f2, .int .i64 f3, .int .i64 f4, .string f5] 39 (0, 0)))) (ds := []) (bm 18 0) (by kernel_rfl) rfl (by kernel_rfl) ⟨below_drew hC1, hX1⟩ (fun hHeld => ?_)
  refine pu_ 0 (some 18) (bm 18 1) ?_
  refine pu_ 1 (some 19) (bm 18 3) ?_
  refine ta_ 2 (some 20) (bm 18 7) hHeld (fun _ hSw => (blk_cell hSw.2 1).trans rfl) ?_
  refine pu_ 3 (some 21) (bm 18 15) ?_
  refine pu_ 5 (some 23) (bm 18 47) ?_
  refine pu_ 6 (some 24) (bm 18 111) ?_
  refine ta_ 7 (some 25) (bm 18 239) hHeld (fun _ hSw => (blk_cell hSw.2 2).trans rfl) ?_
  refine pu_ 8 (some 26) (bm 18 495) ?_
  refine pu_ 10 (some 28) (bm 18 1519) ?_
  refine pu_ 11 (some 29) (bm 18 3567) ?_
  refine ta_ 12 (some 30) (bm 18 7663) hHeld (fun _ hSw => (blk_cell hSw.2 3).trans rfl) ?_
  refine pu_ 13 (some 31) (bm 18 15855) ?_
  refine one_ (i := 4) (N := (some 22)) (bm 18 15871) rfl rfl (by kernel_rfl) (by decide) (fun K hK => ?_)
  refine goes_ Tryz.func30 (by kernel_rfl) rfl #[.pointer (some ⟨Wb, 0, none⟩), .int .i64 f1, .int .i64 ctx] (by rfl) rfl rfl (by try simp only [List.map_toArray, List.map_cons, List.map_nil]; first | done | rfl) ?_
  refine (hm1 _ hHeld.1).mono ?_
  rintro e w' ⟨rfl, hw⟩
  obtain rfl := hw.symm
  refine ⟨_, rfl, ?_⟩
  refine hK.out _ _ hHeld (fun hHeld => ?_)
  clear hK K
  refine norm_ (a' := ?_) ?_ ?_
  rotate_left
  · show Act.put _ (some 22) _ = _
    simp only [Act.put, List.setIfInBounds_toArray, List.set_cons_zero, List.set_cons_succ]
    rfl
  refine one_ (i := 9) (N := (some 27)) (bm 18 16383) rfl rfl (by kernel_rfl) (by decide) (fun K hK => ?_)
  refine goes_ Tryz.func30 (by kernel_rfl) rfl #[.pointer (some ⟨Wb, 0, none⟩), .int .i64 f2, .int .i64 ctx] (by rfl) rfl rfl (by try simp only [List.map_toArray, List.map_cons, List.map_nil]; first | done | rfl) ?_
  refine (hm2 _ hHeld.1).mono ?_
  rintro e w' ⟨rfl, hw⟩
  obtain rfl := hw.symm
  refine ⟨_, rfl, ?_⟩
  refine hK.out _ _ hHeld (fun hHeld => ?_)
  clear hK K
  refine norm_ (a' := ?_) ?_ ?_
  rotate_left
  · show Act.put _ (some 27) _ = _
    simp only [Act.put, List.setIfInBounds_toArray, List.set_cons_zero, List.set_cons_succ]
    rfl
  refine one_ (i := 14) (N := (some 32)) (bm 18 32767) rfl rfl (by kernel_rfl) (by decide) (fun K hK => ?_)
  refine goes_ Tryz.func30 (by kernel_rfl) rfl #[.pointer (some ⟨Wb, 0, none⟩), .int .i64 f3, .int .i64 ctx] (by rfl) rfl rfl (by try simp only [List.map_toArray, List.map_cons, List.map_nil]; first | done | rfl) ?_
  refine (hm3 _ hHeld.1).mono ?_
  rintro e w' ⟨rfl, hw⟩
  obtain rfl := hw.symm
  refine ⟨_, rfl, ?_⟩
  refine hK.out _ _ hHeld (fun hHeld => ?_)
  clear hK K
  refine norm_ (a' := ?_) ?_ ?_
  rotate_left
  · show Act.put _ (some 32) _ = _
    simp only [Act.put, List.setIfInBounds_toArray, List.set_cons_zero, List.set_cons_succ]
    rfl
  refine pu_ 15 (some 8) (bm 18 65535) ?_
  refine pu_ 16 (some 9) (bm 18 131071) ?_
  refine pu_ 17 (some 10) (bm 18 262143) ?_
  refine done_ (by kernel_rfl) ?_
  have hC5 := hHeld.1
  have hX2 := hHeld.2
  have z0 := (blk_cell (blk_below hWb hC5) 0).trans rfl
  have c0 := (blk_cell hX2 0).trans rfl
  have c1 := (blk_cell hX2 1).trans rfl
  have c2 := (blk_cell hX2 2).trans rfl
  have c3 := (blk_cell hX2 3).trans rfl
  have c4 := (blk_cell hX2 4).trans rfl
  have c5 := (blk_cell hX2 5).trans rfl
  go_wp2_with (first
    | (go_at_call 23; (with_reducible refine (hnm _ hHeld.1).mono ?_); rintro e w' ⟨rfl, hw⟩; obtain rfl := hw.symm)
    | (go_at_call 56; (with_reducible refine (hop _ hC5).mono ?_); rintro e w5 ⟨rfl, cl5, h5, s5⟩))
  go_ret2
  exact WoC.yes (WoStep.same hC5) ⟨h5, s5⟩ HF.out
end Go.Proofs.YtgopddjmmoohdaaGreatDoor

/- world: Do, signal. -/
set_option linter.unusedSimpArgs false
set_option linter.unusedVariables false
set_option maxRecDepth 100000
set_option maxHeartbeats 3200000
namespace Go.Proofs.YtgopddjmmoohdaaGreatDoor
open Go.RowKit Go.Proofs.YtgopddjmmoohdaaGreatDoorW.PrintWords Go.Proofs.YtgopddjmmoohdaaGreatDoorW.PrintLast Go.Proofs.YtgopddjmmoohdaaGreatDoor.PPlaySilent

theorem do51_any (x : Int) (w : World) : Calls Tryz.prog 51 #[.int .i64 x] w fun e w' => e = .returned (.bool (x == 0)) ∧ Below w.heap.size w w' := by
  go_enter Tryz.func51, Tryz.ntmps51
  go_wp2
  go_ret
  exact ⟨rfl, Below.refl _ _⟩
theorem dop8_any {cl : Nat → Nat} {w0 w : World} {Wb F L B calls : Nat} {st : St} (h : WoC cl w0 w Wb F L B calls st) (hO : LayO w) (hT : SgOk st.sg) (f1 f2 f3 f4 : Int) (f5 : ByteArray) (ctx : Int) (hr : rightO ⟨8, f1, f2, f3, f4, f5⟩ = true) :
    Calls Tryz.prog 28 #[.pointer (some ⟨Wb, 0, none⟩), opV ⟨8, f1, f2, f3, f4, f5⟩, .int .i64 ctx] w (WoPost cl w0 w Wb F L B calls (doW calls st ⟨8, f1, f2, f3, f4, f5⟩ ctx)) := by
  have hb := fun Z => below_alloc (Below.refl w.heap.size w) Z
  obtain ⟨v, hWb⟩ := h.wb
  have hri := fun W (hW : Below w.heap.size w W) => oright_any ⟨8, f1, f2, f3, f4, f5⟩ W (hO.below hW)
  rw [hr] at hri
  have hm1 := fun W (hW : Below w.heap.size w W) => meant_any (h.below hW) f1 ctx
  have hm2 := fun W (hW : Below w.heap.size w W) => meant_any (h.below hW) f2 ctx
  have hm3 := fun W (hW : Below w.heap.size w W) => meant_any (h.below hW) f3 ctx
  have hnm := fun W (hW : Below w.heap.size w W) => oname_any 8 W (hO.below hW)
  rw [show nameW 8 = ⟨#[115, 105, 103, 110, 97, 108]⟩ from rfl] at hnm
  have HF : doW calls st ⟨8, f1, f2, f3, f4, f5⟩ ctx = doA calls st ⟨8, f1, f2, f3, f4, f5⟩ (meantF st.ev f1 ctx) (meantF st.ev f2 ctx) (meantF st.ev f3 ctx) := if_neg (by rw [hr]; simp)
  generalize meantF st.ev f1 ctx = a at *
  generalize meantF st.ev f2 ctx = b at *
  generalize meantF st.ev f3 ctx = c at *
  rw [show doA calls st ⟨8, f1, f2, f3, f4, f5⟩ a b c = ({ st with sg := (makeG st.sg ([f1, f2].filter (fun y => !(y == 0)))).1 }, (makeG st.sg ([f1, f2].filter (fun y => !(y == 0)))).2) from rfl] at HF
  replace HF := hd_ HF
  generalize doW calls st ⟨8, f1, f2, f3, f4, f5⟩ ctx = dr at *
  obtain ⟨own, sl, hB, hsl, hown⟩ := h.bo
  have hB := fun W (hW : Below w.heap.size w W) => hB.below hW
  replace hown := hd_ hown
  simp only [opV] at hri ⊢
  clear hr hO hT
  replace h := hd_ h
  go_enter Tryz.func28, Tryz.ntmps28
  go_wp2_with (go_at_call 27; (with_reducible refine (hri _ (hb _)).mono ?_); rintro e w1 ⟨rfl, hB1⟩; have hC1 := below_then (hb _) (hb _).size hB1; have hX1 := blk_below (blk_new w (.cells #[.int .i64 8, .int .i64 f1, .int .i64 f2, .int .i64 f3, .int .i64 f4, .string f5] 39)) hB1)
  refine start_ (n := 18) (S := (fun W_ => Below w.heap.size w W_ ∧ W_.heap[w.heap.size]? = some (.cells #[.int .i64 8, .int .i64 f1, .int .i64 f2, .int .i64 f3, .int .i64 f4, .string f5] 39 (0, 0)))) (ds := []) (bm 18 0) (by kernel_rfl) rfl (by kernel_rfl) ⟨below_drew hC1, hX1⟩ (fun hHeld => ?_)
  refine pu_ 0 (some 18) (bm 18 1) ?_
  refine pu_ 1 (some 19) (bm 18 3) ?_
  refine ta_ 2 (some 20) (bm 18 7) hHeld (fun _ hSw => (blk_cell hSw.2 1).trans rfl) ?_
  refine pu_ 3 (some 21) (bm 18 15) ?_
  refine pu_ 5 (some 23) (bm 18 47) ?_
  refine pu_ 6 (some 24) (bm 18 111) ?_
  refine ta_ 7 (some 25) (bm 18 239) hHeld (fun _ hSw => (blk_cell hSw.2 2).trans rfl) ?_
  refine pu_ 8 (some 26) (bm 18 495) ?_
  refine pu_ 10 (some 28) (bm 18 1519) ?_
  refine pu_ 11 (some 29) (bm 18 3567) ?_
  refine ta_ 12 (some 30) (bm 18 7663) hHeld (fun _ hSw => (blk_cell hSw.2 3).trans rfl) ?_
  refine pu_ 13 (some 31) (bm 18 15855) ?_
  refine one_ (i := 4) (N := (some 22)) (bm 18 15871) rfl rfl (by kernel_rfl) (by decide) (fun K hK => ?_)
  refine goes_ Tryz.func30 (by kernel_rfl) rfl #[.pointer (some ⟨Wb, 0, none⟩), .int .i64 f1, .int .i64 ctx] (by rfl) rfl rfl (by try simp only [List.map_toArray, List.map_cons, List.map_nil]; first | done | rfl) ?_
  refine (hm1 _ hHeld.1).mono ?_
  rintro e w' ⟨rfl, hw⟩
  obtain rfl := hw.symm
  refine ⟨_, rfl, ?_⟩
  refine hK.out _ _ hHeld (fun hHeld => ?_)
  clear hK K
  refine norm_ (a' := ?_) ?_ ?_
  rotate_left
  · show Act.put _ (some 22) _ = _
    simp only [Act.put, List.setIfInBounds_toArray, List.set_cons_zero, List.set_cons_succ]
    rfl
  refine one_ (i := 9) (N := (some 27)) (bm 18 16383) rfl rfl (by kernel_rfl) (by decide) (fun K hK => ?_)
  refine goes_ Tryz.func30 (by kernel_rfl) rfl #[.pointer (some ⟨Wb, 0, none⟩), .int .i64 f2, .int .i64 ctx] (by rfl) rfl rfl (by try simp only [List.map_toArray, List.map_cons, List.map_nil]; first | done | rfl) ?_
  refine (hm2 _ hHeld.1).mono ?_
  rintro e w' ⟨rfl, hw⟩
  obtain rfl := hw.symm
  refine ⟨_, rfl, ?_⟩
  refine hK.out _ _ hHeld (fun hHeld => ?_)
  clear hK K
  refine norm_ (a' := ?_) ?_ ?_
  rotate_left
  · show Act.put _ (some 27) _ = _
    simp only [Act.put, List.setIfInBounds_toArray, List.set_cons_zero, List.set_cons_succ]
    rfl
  refine one_ (i := 14) (N := (some 32)) (bm 18 32767) rfl rfl (by kernel_rfl) (by decide) (fun K hK => ?_)
  refine goes_ Tryz.func30 (by kernel_rfl) rfl #[.pointer (some ⟨Wb, 0, none⟩), .int .i64 f3, .int .i64 ctx] (by rfl) rfl rfl (by try simp only [List.map_toArray, List.map_cons, List.map_nil]; first | done | rfl) ?_
  refine (hm3 _ hHeld.1).mono ?_
  rintro e w' ⟨rfl, hw⟩
  obtain rfl := hw.symm
  refine ⟨_, rfl, ?_⟩
  refine hK.out _ _ hHeld (fun hHeld => ?_)
  clear hK K
  refine norm_ (a' := ?_) ?_ ?_
  rotate_left
  · show Act.put _ (some 32) _ = _
    simp only [Act.put, List.setIfInBounds_toArray, List.set_cons_zero, List.set_cons_succ]
    rfl
  refine pu_ 15 (some 8) (bm 18 65535) ?_
  refine pu_ 16 (some 9) (bm 18 131071) ?_
  refine pu_ 17 (some 10) (bm 18 262143) ?_
  refine done_ (by kernel_rfl) ?_
  have hC5 := hHeld.1
  have hX2 := hHeld.2
  have z0 := (blk_cell (blk_below hWb hC5) 0).trans rfl
  have c0 := (blk_cell hX2 0).trans rfl
  have c1 := (blk_cell hX2 1).trans rfl
  have c2 := (blk_cell hX2 2).trans rfl
  have c3 := (blk_cell hX2 3).trans rfl
  have c4 := (blk_cell hX2 4).trans rfl
  have c5 := (blk_cell hX2 5).trans rfl
  go_wp2_with (go_at_call 23; (with_reducible refine (hnm _ hHeld.1).mono ?_); rintro e w' ⟨rfl, hw⟩; obtain rfl := hw.symm)
  refine start_ (n := 16) (S := (fun W_ => Below w.heap.size w W_ ∧ W_.heap[w.heap.size]? = some (.cells #[.int .i64 8, .int .i64 f1, .int .i64 f2, .int .i64 f3, .int .i64 f4, .string f5] 39 (0, 0)))) (ds := [11]) (bm 16 0) (by kernel_rfl) rfl (by kernel_rfl) ⟨below_then hHeld.1 hHeld.1.size (below_drew (Below.refl _ _)), hHeld.2⟩ (fun hHeld => ?_)
  refine pu_ 0 (some 120) (bm 16 1) ?_
  refine pu_ 1 (some 121) (bm 16 3) ?_
  refine pu_ 2 (some 122) (bm 16 7) ?_
  refine pu_ 3 (some 123) (bm 16 15) ?_
  refine ta_ 4 (some 124) (bm 16 31) hHeld (fun _ hSw => (blk_cell (blk_below hWb hSw.1) 2).trans rfl) ?_
  refine pu_ 5 (some 125) (bm 16 63) ?_
  refine ta_ 6 (some 126) (bm 16 127) hHeld (fun _ hSw => (blk_cell hSw.2 1).trans rfl) ?_
  refine pu_ 7 (some 127) (bm 16 255) ?_
  refine ta_ 8 (some 128) (bm 16 511) hHeld (fun _ hSw => (blk_cell hSw.2 2).trans rfl) ?_
  refine one_ (i := 9) (N := (some 129)) (bm 16 1023) rfl rfl (by kernel_rfl) (by decide) (fun K hK => ?_)
  refine value_ (w1 := w1.drew.drew.alloc (.cells #[.int .i64 f1, .int .i64 f2] 3)) (v := .slice (some ⟨w1.drew.drew.heap.size, 0, none⟩) 2 2) (by rfl) rfl ?_ ?_
  · go_simp
  refine hK.out _ _ ⟨below_alloc hHeld.1 _, alloc_at hHeld.2 _⟩ (fun hHeld => ?_)
  clear hK K
  refine norm_ (a' := ?_) ?_ ?_
  rotate_left
  · show Act.put _ (some 129) _ = _
    simp only [Act.put, List.setIfInBounds_toArray, List.set_cons_zero, List.set_cons_succ]
    rfl
  refine one_ (i := 10) (N := (some 130)) (bm 16 2047) rfl rfl (by kernel_rfl) (by decide) (fun K hK => ?_)
  refine goes_ Tryz.func50 (by kernel_rfl) rfl #[.slice (some ⟨w1.drew.drew.heap.size, 0, none⟩) 2 2, .func (.func 51) #[] #[]] (by rfl) rfl rfl (by try simp only [List.map_toArray, List.map_cons, List.map_nil]; first | done | rfl) ?_
  have hC9 := hHeld.1
  have hX9 := hHeld.2
  refine (delf51 [f1, f2] (fun y => y == 0) w1.drew.drew.heap.size 2 0 (fun _ => True) _ (by simp) (Kd.R_of_own (own_lit _ 0 3 .i64 [f1, f2] (Nat.zero_le _) (by simp)) (fun _ _ => trivial)) (fun x _ W _ => do51_any x W)).mono ?_
  rintro e w4 ⟨rfl, hR4, hS4⟩
  have hC4 := hS4.base hC9 hC9.size (fun k hk => by rw [show k = _ from hk]; exact Nat.le_trans hC1.size (Nat.le_refl _))
  refine ⟨_, rfl, ?_⟩
  refine hK.out _ _ ⟨hC4, hS4.blk hX9 (fun e => by have := blk_lt hX1; have : w.heap.size = w1.heap.size := e; omega)⟩ (fun hHeld => ?_)
  clear hK K
  refine norm_ (a' := ?_) ?_ ?_
  rotate_left
  · show Act.put _ (some 130) _ = _
    simp only [Act.put, List.setIfInBounds_toArray, List.set_cons_zero, List.set_cons_succ]
    rfl
  refine last_ (i := 11) (N := (some 131)) (bm 16 4095) rfl rfl (by kernel_rfl) (by decide) (fun K hK => ?_)
  refine goes_ Tryz.func49 (by kernel_rfl) rfl #[.pointer (some ⟨B, 0, none⟩), .slice (some ⟨w1.drew.drew.heap.size, 0, none⟩) ([f1, f2].filter (fun y => !(y == 0))).length 2] (by rfl) rfl rfl (by try simp only [List.map_toArray, List.map_cons, List.map_nil]; first | done | rfl) ?_
  obtain ⟨A4, c4', hv4, hl4, hR5⟩ := Kd.R_reads hR4
  cases hv4
  refine (bmake_any own w0 _ B sl _ _ 2 (hB _ hC4) hR5 (Nat.le_trans (List.length_filter_le _ _) (by simp))).mono ?_
  rw [hsl]
  rintro e w5 ⟨rfl, own5, l5, hB5, he5, hS5⟩
  refine ⟨_, rfl, ?_⟩
  refine hK.out _ _ ?_
  clear hK K
  refine norm_ (a' := ?_) ?_ ?_
  rotate_left
  · show Act.put _ (some 131) _ = _
    simp only [Act.put, List.setIfInBounds_toArray, List.set_cons_zero, List.set_cons_succ]
    rfl
  refine pu_ 12 (some 132) (bm 16 8191) ?_
  refine pu_ 13 (some 133) (bm 16 16383) ?_
  refine pu_ 14 (some 6) (bm 16 32767) ?_
  refine pu_ 15 (some 7) (bm 16 65535) ?_
  refine done_ (by kernel_rfl) ?_
  go_wp2
  go_ret2
  have h5 := (h.out.below hC4).setB hown.out hB5 hS5
  rw [he5] at h5
  exact WoC.yes (WoStep.same hC4) h5 HF.out
end Go.Proofs.YtgopddjmmoohdaaGreatDoor
