/- The texts of this seat, joined: part 21 of 25. -/
import Derived.Test.YtgopddjmmoohdaaGreatDoorSl01
import Derived.Test.YtgopddjmmoohdaaGreatDoorSl20
/- world: Do, its arms. -/
set_option linter.unusedSimpArgs false
set_option linter.unusedVariables false
set_option maxRecDepth 100000
set_option maxHeartbeats 3200000
namespace Go.Proofs.YtgopddjmmoohdaaGreatDoor
open Go.RowKit Go.Proofs.YtgopddjmmoohdaaGreatDoorW.PrintWords Go.Proofs.YtgopddjmmoohdaaGreatDoorW.PrintLast Go.Proofs.YtgopddjmmoohdaaGreatDoor.PPlaySilent

/-- What an operation does, its nodes' numbers found. -/
def doA (calls : Nat) (st : St) (x : S39) (a b c : Int) : St × Int × Int :=
  if x.f0 = 1 then mkW st x
  else if x.f0 = 2 then ({ st with l := wantF st.l a x.f5 }, 0, wantE st.l a x.f5)
  else if x.f0 = 3 then ({ st with l := nameF st.l a x.f5 }, 0, nameE st.l a x.f5)
  else if x.f0 = 4 then ({ st with l := befF st.l a b 0 }, 0, befE st.l a b 0)
  else if x.f0 = 5 then ({ st with l := befF st.l a b c }, 0, befE st.l a b c)
  else if x.f0 = 6 then ({ st with l := removeF st.l a b }, 0, removeE st.l a b)
  else if x.f0 = 7 then ({ st with l := (attR st.l a x.f2).1 }, (attR st.l a x.f2).2)
  else if x.f0 = 8 then ({ st with sg := (makeG st.sg ([x.f1, x.f2].filter (fun y => !(y == 0)))).1 }, (makeG st.sg ([x.f1, x.f2].filter (fun y => !(y == 0)))).2)
  else if x.f0 = 9 then abortW st x.f1
  else if x.f0 = 10 then listenW calls st a x
  else if x.f0 = 11 then unW st a x
  else if x.f0 = 12 then evW st b x
  else if x.f0 = 13 then (st, 0, 5)
  else if x.f0 = 17 then ({ st with l := putF st.l a [] }, 0, putE st.l a [])
  else flagW st a x.f0
/-- Do: the state then, an answer, an error. -/
def doW (calls : Nat) (st : St) (x : S39) (ctx : Int) : St × Int × Int := if rightO x = false then (st, 0, 7) else doA calls st x (meantF st.ev x.f1 ctx) (meantF st.ev x.f2 ctx) (meantF st.ev x.f3 ctx)
theorem dop1_any {cl : Nat → Nat} {w0 w : World} {Wb F L B calls : Nat} {st : St} (h : WoC cl w0 w Wb F L B calls st) (hO : LayO w) (hT : SgOk st.sg) (f1 f2 f3 f4 : Int) (f5 : ByteArray) (ctx : Int) (hr : rightO ⟨1, f1, f2, f3, f4, f5⟩ = true) :
    Calls Tryz.prog 28 #[.pointer (some ⟨Wb, 0, none⟩), opV ⟨1, f1, f2, f3, f4, f5⟩, .int .i64 ctx] w (WoPost cl w0 w Wb F L B calls (doW calls st ⟨1, f1, f2, f3, f4, f5⟩ ctx)) := by
  have hb := fun Z => below_alloc (Below.refl w.heap.size w) Z
  obtain ⟨v, hWb⟩ := h.wb
  have hri := fun W (hW : Below w.heap.size w W) => oright_any ⟨1, f1, f2, f3, f4, f5⟩ W (hO.below hW)
  rw [hr] at hri
  have hm1 := fun W (hW : Below w.heap.size w W) => meant_any (h.below hW) f1 ctx
  have hm2 := fun W (hW : Below w.heap.size w W) => meant_any (h.below hW) f2 ctx
  have hm3 := fun W (hW : Below w.heap.size w W) => meant_any (h.below hW) f3 ctx
  have hnm := fun W (hW : Below w.heap.size w W) => oname_any 1 W (hO.below hW)
  rw [show nameW 1 = ⟨#[109, 97, 107, 101]⟩ from rfl] at hnm
  have HF : doW calls st ⟨1, f1, f2, f3, f4, f5⟩ ctx = doA calls st ⟨1, f1, f2, f3, f4, f5⟩ (meantF st.ev f1 ctx) (meantF st.ev f2 ctx) (meantF st.ev f3 ctx) := if_neg (by rw [hr]; simp)
  generalize meantF st.ev f1 ctx = a at *
  generalize meantF st.ev f2 ctx = b at *
  generalize meantF st.ev f3 ctx = c at *
  rw [show doA calls st ⟨1, f1, f2, f3, f4, f5⟩ a b c = mkW st ⟨1, f1, f2, f3, f4, f5⟩ from rfl] at HF
  replace HF := hd_ HF
  generalize doW calls st ⟨1, f1, f2, f3, f4, f5⟩ ctx = dr at *
  have hop := fun W (hW : Below w.heap.size w W) => wmake_any (h.below hW) ⟨1, f1, f2, f3, f4, f5⟩
  simp only [opV] at hop
  generalize mkW st ⟨1, f1, f2, f3, f4, f5⟩ = r at *
  obtain ⟨r1, r2, r3⟩ := r
  unfold WoPost at hop
  dsimp only at hop
  simp only [opV] at hri ⊢
  clear hr hO hT
  replace h := hd_ h
  go_enter Tryz.func28, Tryz.ntmps28
  go_wp2_with (go_at_call 27; (with_reducible refine (hri _ (hb _)).mono ?_); rintro e w1 ⟨rfl, hB1⟩; have hC1 := below_then (hb _) (hb _).size hB1; have hX1 := blk_below (blk_new w (.cells #[.int .i64 1, .int .i64 f1, .int .i64 f2, .int .i64 f3, .int .i64 f4, .string f5] 39)) hB1)
  refine start_ (n := 18) (S := (fun W_ => Below w.heap.size w W_ ∧ W_.heap[w.heap.size]? = some (.cells #[.int .i64 1, .int .i64 f1, .int .i64 f2, .int .i64 f3, .int .i64 f4, .string f5] 39 (0, 0)))) (ds := []) (bm 18 0) (by kernel_rfl) rfl (by kernel_rfl) ⟨below_drew hC1, hX1⟩ (fun hHeld => ?_)
  refine pu_ 0 (some 18) (bm 18 1) ?_
  refine pu_ 1 (some 19) (bm 18 3) ?_
  refine ta_ 2 (some 20) (bm 18 7) hHeld (fun _ hSw => (blk_cell hSw.2 1).trans rfl) ?_
  refine pu_ 3 (some 21) (bm 18 15) ?_
  refine pu_ 5 (some 23) (bm 18 47) ?_
  refine pu_ 6 (some 24) (bm 18 111) ?_
  refine ta_ 7 (some 25) (bm 18 239) hHeld (fun _ hSw => (blk_cell hSw.2 2).trans rfl) ?_
  refine pu_ 8 (some 26) (bm 18 495) ?_
  refine pu_ 10 (some 28) (bm 18 1519) ?_
  refine pu_ 11 (some 29) (bm 18 3567) ?_
  refine ta_ 12 (some 30) (bm 18 7663) hHeld (fun _ hSw => (blk_cell hSw.2 3).trans rfl) ?_
  refine pu_ 13 (some 31) (bm 18 15855) ?_
  refine one_ (i := 4) (N := (some 22)) (bm 18 15871) rfl rfl (by kernel_rfl) (by decide) (fun K hK => ?_)
  refine goes_ Tryz.func30 (by kernel_rfl) rfl #[.pointer (some ⟨Wb, 0, none⟩), .int .i64 f1, .int .i64 ctx] (by rfl) rfl rfl (by try simp only [List.map_toArray, List.map_cons, List.map_nil]; first | done | rfl) ?_
  refine (hm1 _ hHeld.1).mono ?_
  rintro e w' ⟨rfl, hw⟩
  obtain rfl := hw.symm
  refine ⟨_, rfl, ?_⟩
  refine hK.out _ _ hHeld (fun hHeld => ?_)
  clear hK K
  refine norm_ (a' := ?_) ?_ ?_
  rotate_left
  · show Act.put _ (some 22) _ = _
    simp only [Act.put, List.setIfInBounds_toArray, List.set_cons_zero, List.set_cons_succ]
    rfl
  refine one_ (i := 9) (N := (some 27)) (bm 18 16383) rfl rfl (by kernel_rfl) (by decide) (fun K hK => ?_)
  refine goes_ Tryz.func30 (by kernel_rfl) rfl #[.pointer (some ⟨Wb, 0, none⟩), .int .i64 f2, .int .i64 ctx] (by rfl) rfl rfl (by try simp only [List.map_toArray, List.map_cons, List.map_nil]; first | done | rfl) ?_
  refine (hm2 _ hHeld.1).mono ?_
  rintro e w' ⟨rfl, hw⟩
  obtain rfl := hw.symm
  refine ⟨_, rfl, ?_⟩
  refine hK.out _ _ hHeld (fun hHeld => ?_)
  clear hK K
  refine norm_ (a' := ?_) ?_ ?_
  rotate_left
  · show Act.put _ (some 27) _ = _
    simp only [Act.put, List.setIfInBounds_toArray, List.set_cons_zero, List.set_cons_succ]
    rfl
  refine one_ (i := 14) (N := (some 32)) (bm 18 32767) rfl rfl (by kernel_rfl) (by decide) (fun K hK => ?_)
  refine goes_ Tryz.func30 (by kernel_rfl) rfl #[.pointer (some ⟨Wb, 0, none⟩), .int .i64 f3, .int .i64 ctx] (by rfl) rfl rfl (by try simp only [List.map_toArray, List.map_cons, List.map_nil]; first | done | rfl) ?_
  refine (hm3 _ hHeld.1).mono ?_
  rintro e w' ⟨rfl, hw⟩
  obtain rfl := hw.symm
  refine ⟨_, rfl, ?_⟩
  refine hK.out _ _ hHeld (fun hHeld => ?_)
  clear hK K
  refine norm_ (a' := ?_) ?_ ?_
  rotate_left
  · show Act.put _ (some 32) _ = _
    simp only [Act.put, List.setIfInBounds_toArray, List.set_cons_zero, List.set_cons_succ]
    rfl
  refine pu_ 15 (some 8) (bm 18 65535) ?_
  refine pu_ 16 (some 9) (bm 18 131071) ?_
  refine pu_ 17 (some 10) (bm 18 262143) ?_
  refine done_ (by kernel_rfl) ?_
  have hC5 := hHeld.1
  have hX2 := hHeld.2
  have z0 := (blk_cell (blk_below hWb hC5) 0).trans rfl
  have c0 := (blk_cell hX2 0).trans rfl
  have c1 := (blk_cell hX2 1).trans rfl
  have c2 := (blk_cell hX2 2).trans rfl
  have c3 := (blk_cell hX2 3).trans rfl
  have c4 := (blk_cell hX2 4).trans rfl
  have c5 := (blk_cell hX2 5).trans rfl
  go_wp2_with (first
    | (go_at_call 23; (with_reducible refine (hnm _ hHeld.1).mono ?_); rintro e w' ⟨rfl, hw⟩; obtain rfl := hw.symm)
    | (go_at_call 41; (with_reducible refine (hop _ hC5).mono ?_); rintro e w5 ⟨rfl, cl5, h5, s5⟩))
  go_ret2
  exact WoC.yes (WoStep.same hC5) ⟨h5, s5⟩ HF.out
theorem dop2_any {cl : Nat → Nat} {w0 w : World} {Wb F L B calls : Nat} {st : St} (h : WoC cl w0 w Wb F L B calls st) (hO : LayO w) (hT : SgOk st.sg) (f1 f2 f3 f4 : Int) (f5 : ByteArray) (ctx : Int) (hr : rightO ⟨2, f1, f2, f3, f4, f5⟩ = true) :
    Calls Tryz.prog 28 #[.pointer (some ⟨Wb, 0, none⟩), opV ⟨2, f1, f2, f3, f4, f5⟩, .int .i64 ctx] w (WoPost cl w0 w Wb F L B calls (doW calls st ⟨2, f1, f2, f3, f4, f5⟩ ctx)) := by
  have hb := fun Z => below_alloc (Below.refl w.heap.size w) Z
  obtain ⟨v, hWb⟩ := h.wb
  have hri := fun W (hW : Below w.heap.size w W) => oright_any ⟨2, f1, f2, f3, f4, f5⟩ W (hO.below hW)
  rw [hr] at hri
  have hm1 := fun W (hW : Below w.heap.size w W) => meant_any (h.below hW) f1 ctx
  have hm2 := fun W (hW : Below w.heap.size w W) => meant_any (h.below hW) f2 ctx
  have hm3 := fun W (hW : Below w.heap.size w W) => meant_any (h.below hW) f3 ctx
  have hnm := fun W (hW : Below w.heap.size w W) => oname_any 2 W (hO.below hW)
  rw [show nameW 2 = ⟨#[119, 97, 110, 116]⟩ from rfl] at hnm
  have HF : doW calls st ⟨2, f1, f2, f3, f4, f5⟩ ctx = doA calls st ⟨2, f1, f2, f3, f4, f5⟩ (meantF st.ev f1 ctx) (meantF st.ev f2 ctx) (meantF st.ev f3 ctx) := if_neg (by rw [hr]; simp)
  generalize meantF st.ev f1 ctx = a at *
  generalize meantF st.ev f2 ctx = b at *
  generalize meantF st.ev f3 ctx = c at *
  rw [show doA calls st ⟨2, f1, f2, f3, f4, f5⟩ a b c = ({ st with l := wantF st.l a f5 }, 0, wantE st.l a f5) from rfl] at HF
  replace HF := hd_ HF
  generalize doW calls st ⟨2, f1, f2, f3, f4, f5⟩ ctx = dr at *
  have hop := fun W (hW : Below w.heap.size w W) => (h.below hW).fo.want a f5
  have hwf := hd_ (h.wf.want a f5)
  generalize wantF st.l a f5 = l' at *
  generalize wantE st.l a f5 = ee at *
  simp only [opV] at hri ⊢
  clear hr hO hT
  replace h := hd_ h
  go_enter Tryz.func28, Tryz.ntmps28
  go_wp2_with (go_at_call 27; (with_reducible refine (hri _ (hb _)).mono ?_); rintro e w1 ⟨rfl, hB1⟩; have hC1 := below_then (hb _) (hb _).size hB1; have hX1 := blk_below (blk_new w (.cells #[.int .i64 2, .int .i64 f1, .int .i64 f2, .int .i64 f3, .int .i64 f4, .string f5] 39)) hB1)
  refine start_ (n := 18) (S := (fun W_ => Below w.heap.size w W_ ∧ W_.heap[w.heap.size]? = some (.cells #[.int .i64 2, .int .i64 f1, .int .i64 f2, .int .i64 f3, .int .i64 f4, .string f5] 39 (0, 0)))) (ds := []) (bm 18 0) (by kernel_rfl) rfl (by kernel_rfl) ⟨below_drew hC1, hX1⟩ (fun hHeld => ?_)
  refine pu_ 0 (some 18) (bm 18 1) ?_
  refine pu_ 1 (some 19) (bm 18 3) ?_
  refine ta_ 2 (some 20) (bm 18 7) hHeld (fun _ hSw => (blk_cell hSw.2 1).trans rfl) ?_
  refine pu_ 3 (some 21) (bm 18 15) ?_
  refine pu_ 5 (some 23) (bm 18 47) ?_
  refine pu_ 6 (some 24) (bm 18 111) ?_
  refine ta_ 7 (some 25) (bm 18 239) hHeld (fun _ hSw => (blk_cell hSw.2 2).trans rfl) ?_
  refine pu_ 8 (some 26) (bm 18 495) ?_
  refine pu_ 10 (some 28) (bm 18 1519) ?_
  refine pu_ 11 (some 29) (bm 18 3567) ?_
  refine ta_ 12 (some 30) (bm 18 7663) hHeld (fun _ hSw => (blk_cell hSw.2 3).trans rfl) ?_
  refine pu_ 13 (some 31) (bm 18 15855) ?_
  refine one_ (i := 4) (N := (some 22)) (bm 18 15871) rfl rfl (by kernel_rfl) (by decide) (fun K hK => ?_)
  refine goes_ Tryz.func30 (by kernel_rfl) rfl #[.pointer (some ⟨Wb, 0, none⟩), .int .i64 f1, .int .i64 ctx] (by rfl) rfl rfl (by try simp only [List.map_toArray, List.map_cons, List.map_nil]; first | done | rfl) ?_
  refine (hm1 _ hHeld.1).mono ?_
  rintro e w' ⟨rfl, hw⟩
  obtain rfl := hw.symm
  refine ⟨_, rfl, ?_⟩
  refine hK.out _ _ hHeld (fun hHeld => ?_)
  clear hK K
  refine norm_ (a' := ?_) ?_ ?_
  rotate_left
  · show Act.put _ (some 22) _ = _
    simp only [Act.put, List.setIfInBounds_toArray, List.set_cons_zero, List.set_cons_succ]
    rfl
  refine one_ (i := 9) (N := (some 27)) (bm 18 16383) rfl rfl (by kernel_rfl) (by decide) (fun K hK => ?_)
  refine goes_ Tryz.func30 (by kernel_rfl) rfl #[.pointer (some ⟨Wb, 0, none⟩), .int .i64 f2, .int .i64 ctx] (by rfl) rfl rfl (by try simp only [List.map_toArray, List.map_cons, List.map_nil]; first | done | rfl) ?_
  refine (hm2 _ hHeld.1).mono ?_
  rintro e w' ⟨rfl, hw⟩
  obtain rfl := hw.symm
  refine ⟨_, rfl, ?_⟩
  refine hK.out _ _ hHeld (fun hHeld => ?_)
  clear hK K
  refine norm_ (a' := ?_) ?_ ?_
  rotate_left
  · show Act.put _ (some 27) _ = _
    simp only [Act.put, List.setIfInBounds_toArray, List.set_cons_zero, List.set_cons_succ]
    rfl
  refine one_ (i := 14) (N := (some 32)) (bm 18 32767) rfl rfl (by kernel_rfl) (by decide) (fun K hK => ?_)
  refine goes_ Tryz.func30 (by kernel_rfl) rfl #[.pointer (some ⟨Wb, 0, none⟩), .int .i64 f3, .int .i64 ctx] (by rfl) rfl rfl (by try simp only [List.map_toArray, List.map_cons, List.map_nil]; first | done | rfl) ?_
  refine (hm3 _ hHeld.1).mono ?_
  rintro e w' ⟨rfl, hw⟩
  obtain rfl := hw.symm
  refine ⟨_, rfl, ?_⟩
  refine hK.out _ _ hHeld (fun hHeld => ?_)
  clear hK K
  refine norm_ (a' := ?_) ?_ ?_
  rotate_left
  · show Act.put _ (some 32) _ = _
    simp only [Act.put, List.setIfInBounds_toArray, List.set_cons_zero, List.set_cons_succ]
    rfl
  refine pu_ 15 (some 8) (bm 18 65535) ?_
  refine pu_ 16 (some 9) (bm 18 131071) ?_
  refine pu_ 17 (some 10) (bm 18 262143) ?_
  refine done_ (by kernel_rfl) ?_
  have hC5 := hHeld.1
  have hX2 := hHeld.2
  have z0 := (blk_cell (blk_below hWb hC5) 0).trans rfl
  have c0 := (blk_cell hX2 0).trans rfl
  have c1 := (blk_cell hX2 1).trans rfl
  have c2 := (blk_cell hX2 2).trans rfl
  have c3 := (blk_cell hX2 3).trans rfl
  have c4 := (blk_cell hX2 4).trans rfl
  have c5 := (blk_cell hX2 5).trans rfl
  go_wp2_with (go_at_call 23; (with_reducible refine (hnm _ hHeld.1).mono ?_); rintro e w' ⟨rfl, hw⟩; obtain rfl := hw.symm)
  refine start_ (n := 11) (S := (fun W_ => Below w.heap.size w W_ ∧ W_.heap[w.heap.size]? = some (.cells #[.int .i64 2, .int .i64 f1, .int .i64 f2, .int .i64 f3, .int .i64 f4, .string f5] 39 (0, 0)))) (ds := [8]) (bm 11 0) (by kernel_rfl) rfl (by kernel_rfl) ⟨below_then hHeld.1 hHeld.1.size (below_drew (Below.refl _ _)), hHeld.2⟩ (fun hHeld => ?_)
  refine pu_ 0 (some 45) (bm 11 1) ?_
  refine pu_ 1 (some 46) (bm 11 3) ?_
  refine pu_ 2 (some 47) (bm 11 7) ?_
  refine pu_ 3 (some 48) (bm 11 15) ?_
  refine ta_ 4 (some 49) (bm 11 31) hHeld (fun _ hSw => (blk_cell (blk_below hWb hSw.1) 0).trans rfl) ?_
  refine pu_ 5 (some 50) (bm 11 63) ?_
  refine pu_ 6 (some 51) (bm 11 127) ?_
  refine ta_ 7 (some 52) (bm 11 255) hHeld (fun _ hSw => (blk_cell hSw.2 5).trans rfl) ?_
  refine last_ (i := 8) (N := (some 53)) (bm 11 511) rfl rfl (by kernel_rfl) (by decide) (fun K hK => ?_)
  refine goes_ Tryz.func42 (by kernel_rfl) rfl #[.pointer (some ⟨F, 0, none⟩), .int .i64 a, .string f5] (by rfl) rfl rfl (by try simp only [List.map_toArray, List.map_cons, List.map_nil]; first | done | rfl) ?_
  have hC5 := hHeld.1
  refine (hop _ hC5).mono ?_
  rintro e w5 ⟨rfl, hF5, hS5⟩
  refine ⟨_, rfl, ?_⟩
  refine hK.out _ _ ?_
  clear hK K
  refine norm_ (a' := ?_) ?_ ?_
  rotate_left
  · show Act.put _ (some 53) _ = _
    simp only [Act.put, List.setIfInBounds_toArray, List.set_cons_zero, List.set_cons_succ]
    rfl
  refine pu_ 9 (some 6) (bm 11 1023) ?_
  refine pu_ 10 (some 7) (bm 11 2047) ?_
  refine done_ (by kernel_rfl) ?_
  go_wp2
  go_ret2
  exact WoC.yes (WoStep.same hC5) ((h.out.below hC5).setF hF5 hwf.out hS5) HF.out
theorem dop3_any {cl : Nat → Nat} {w0 w : World} {Wb F L B calls : Nat} {st : St} (h : WoC cl w0 w Wb F L B calls st) (hO : LayO w) (hT : SgOk st.sg) (f1 f2 f3 f4 : Int) (f5 : ByteArray) (ctx : Int) (hr : rightO ⟨3, f1, f2, f3, f4, f5⟩ = true) :
    Calls Tryz.prog 28 #[.pointer (some ⟨Wb, 0, none⟩), opV ⟨3, f1, f2, f3, f4, f5⟩, .int .i64 ctx] w (WoPost cl w0 w Wb F L B calls (doW calls st ⟨3, f1, f2, f3, f4, f5⟩ ctx)) := by
  have hb := fun Z => below_alloc (Below.refl w.heap.size w) Z
  obtain ⟨v, hWb⟩ := h.wb
  have hri := fun W (hW : Below w.heap.size w W) => oright_any ⟨3, f1, f2, f3, f4, f5⟩ W (hO.below hW)
  rw [hr] at hri
  have hm1 := fun W (hW : Below w.heap.size w W) => meant_any (h.below hW) f1 ctx
  have hm2 := fun W (hW : Below w.heap.size w W) => meant_any (h.below hW) f2 ctx
  have hm3 := fun W (hW : Below w.heap.size w W) => meant_any (h.below hW) f3 ctx
  have hnm := fun W (hW : Below w.heap.size w W) => oname_any 3 W (hO.below hW)
  rw [show nameW 3 = ⟨#[110, 97, 109, 101]⟩ from rfl] at hnm
  have HF : doW calls st ⟨3, f1, f2, f3, f4, f5⟩ ctx = doA calls st ⟨3, f1, f2, f3, f4, f5⟩ (meantF st.ev f1 ctx) (meantF st.ev f2 ctx) (meantF st.ev f3 ctx) := if_neg (by rw [hr]; simp)
  generalize meantF st.ev f1 ctx = a at *
  generalize meantF st.ev f2 ctx = b at *
  generalize meantF st.ev f3 ctx = c at *
  rw [show doA calls st ⟨3, f1, f2, f3, f4, f5⟩ a b c = ({ st with l := nameF st.l a f5 }, 0, nameE st.l a f5) from rfl] at HF
  replace HF := hd_ HF
  generalize doW calls st ⟨3, f1, f2, f3, f4, f5⟩ ctx = dr at *
  have hop := fun W (hW : Below w.heap.size w W) => (h.below hW).fo.name a f5
  have hwf := hd_ (h.wf.name a f5)
  generalize nameF st.l a f5 = l' at *
  generalize nameE st.l a f5 = ee at *
  simp only [opV] at hri ⊢
  clear hr hO hT
  replace h := hd_ h
  go_enter Tryz.func28, Tryz.ntmps28
  go_wp2_with (go_at_call 27; (with_reducible refine (hri _ (hb _)).mono ?_); rintro e w1 ⟨rfl, hB1⟩; have hC1 := below_then (hb _) (hb _).size hB1; have hX1 := blk_below (blk_new w (.cells #[.int .i64 3, .int .i64 f1, .int .i64 f2, .int .i64 f3, .int .i64 f4, .string f5] 39)) hB1)
  refine start_ (n := 18) (S := (fun W_ => Below w.heap.size w W_ ∧ W_.heap[w.heap.size]? = some (.cells #[.int .i64 3, .int .i64 f1, .int .i64 f2, .int .i64 f3, .int .i64 f4, .string f5] 39 (0, 0)))) (ds := []) (bm 18 0) (by kernel_rfl) rfl (by kernel_rfl) ⟨below_drew hC1, hX1⟩ (fun hHeld => ?_)
  refine pu_ 0 (some 18) (bm 18 1) ?_
  refine pu_ 1 (some 19) (bm 18 3) ?_
  refine ta_ 2 (some 20) (bm 18 7) hHeld (fun _ hSw => (blk_cell hSw.2 1).trans rfl) ?_
  refine pu_ 3 (some 21) (bm 18 15) ?_
  refine pu_ 5 (some 23) (bm 18 47) ?_
  refine pu_ 6 (some 24) (bm 18 111) ?_
  refine ta_ 7 (some 25) (bm 18 239) hHeld (fun _ hSw => (blk_cell hSw.2 2).trans rfl) ?_
  refine pu_ 8 (some 26) (bm 18 495) ?_
  refine pu_ 10 (some 28) (bm 18 1519) ?_
  refine pu_ 11 (some 29) (bm 18 3567) ?_
  refine ta_ 12 (some 30) (bm 18 7663) hHeld (fun _ hSw => (blk_cell hSw.2 3).trans rfl) ?_
  refine pu_ 13 (some 31) (bm 18 15855) ?_
  refine one_ (i := 4) (N := (some 22)) (bm 18 15871) rfl rfl (by kernel_rfl) (by decide) (fun K hK => ?_)
  refine goes_ Tryz.func30 (by kernel_rfl) rfl #[.pointer (some ⟨Wb, 0, none⟩), .int .i64 f1, .int .i64 ctx] (by rfl) rfl rfl (by try simp only [List.map_toArray, List.map_cons, List.map_nil]; first | done | rfl) ?_
  refine (hm1 _ hHeld.1).mono ?_
  rintro e w' ⟨rfl, hw⟩
  obtain rfl := hw.symm
  refine ⟨_, rfl, ?_⟩
  refine hK.out _ _ hHeld (fun hHeld => ?_)
  clear hK K
  refine norm_ (a' := ?_) ?_ ?_
  rotate_left
  · show Act.put _ (some 22) _ = _
    simp only [Act.put, List.setIfInBounds_toArray, List.set_cons_zero, List.set_cons_succ]
    rfl
  refine one_ (i := 9) (N := (some 27)) (bm 18 16383) rfl rfl (by kernel_rfl) (by decide) (fun K hK => ?_)
  refine goes_ Tryz.func30 (by kernel_rfl) rfl #[.pointer (some ⟨Wb, 0, none⟩), .int .i64 f2, .int .i64 ctx] (by rfl) rfl rfl (by try simp only [List.map_toArray, List.map_cons, List.map_nil]; first | done | rfl) ?_
  refine (hm2 _ hHeld.1).mono ?_
  rintro e w' ⟨rfl, hw⟩
  obtain rfl := hw.symm
  refine ⟨_, rfl, ?_⟩
  refine hK.out _ _ hHeld (fun hHeld => ?_)
  clear hK K
  refine norm_ (a' := ?_) ?_ ?_
  rotate_left
  · show Act.put _ (some 27) _ = _
    simp only [Act.put, List.setIfInBounds_toArray, List.set_cons_zero, List.set_cons_succ]
    rfl
  refine one_ (i := 14) (N := (some 32)) (bm 18 32767) rfl rfl (by kernel_rfl) (by decide) (fun K hK => ?_)
  refine goes_ Tryz.func30 (by kernel_rfl) rfl #[.pointer (some ⟨Wb, 0, none⟩), .int .i64 f3, .int .i64 ctx] (by rfl) rfl rfl (by try simp only [List.map_toArray, List.map_cons, List.map_nil]; first | done | rfl) ?_
  refine (hm3 _ hHeld.1).mono ?_
  rintro e w' ⟨rfl, hw⟩
  obtain rfl := hw.symm
  refine ⟨_, rfl, ?_⟩
  refine hK.out _ _ hHeld (fun hHeld => ?_)
  clear hK K
  refine norm_ (a' := ?_) ?_ ?_
  rotate_left
  · show Act.put _ (some 32) _ = _
    simp only [Act.put, List.setIfInBounds_toArray, List.set_cons_zero, List.set_cons_succ]
    rfl
  refine pu_ 15 (some 8) (bm 18 65535) ?_
  refine pu_ 16 (some 9) (bm 18 131071) ?_
  refine pu_ 17 (some 10) (bm 18 262143) ?_
  refine done_ (by kernel_rfl) ?_
  have hC5 := hHeld.1
  have hX2 := hHeld.2
  have z0 := (blk_cell (blk_below hWb hC5) 0).trans rfl
  have c0 := (blk_cell hX2 0).trans rfl
  have c1 := (blk_cell hX2 1).trans rfl
  have c2 := (blk_cell hX2 2).trans rfl
  have c3 := (blk_cell hX2 3).trans rfl
  have c4 := (blk_cell hX2 4).trans rfl
  have c5 := (blk_cell hX2 5).trans rfl
  go_wp2_with (go_at_call 23; (with_reducible refine (hnm _ hHeld.1).mono ?_); rintro e w' ⟨rfl, hw⟩; obtain rfl := hw.symm)
  refine start_ (n := 11) (S := (fun W_ => Below w.heap.size w W_ ∧ W_.heap[w.heap.size]? = some (.cells #[.int .i64 3, .int .i64 f1, .int .i64 f2, .int .i64 f3, .int .i64 f4, .string f5] 39 (0, 0)))) (ds := [8]) (bm 11 0) (by kernel_rfl) rfl (by kernel_rfl) ⟨below_then hHeld.1 hHeld.1.size (below_drew (Below.refl _ _)), hHeld.2⟩ (fun hHeld => ?_)
  refine pu_ 0 (some 56) (bm 11 1) ?_
  refine pu_ 1 (some 57) (bm 11 3) ?_
  refine pu_ 2 (some 58) (bm 11 7) ?_
  refine pu_ 3 (some 59) (bm 11 15) ?_
  refine ta_ 4 (some 60) (bm 11 31) hHeld (fun _ hSw => (blk_cell (blk_below hWb hSw.1) 0).trans rfl) ?_
  refine pu_ 5 (some 61) (bm 11 63) ?_
  refine pu_ 6 (some 62) (bm 11 127) ?_
  refine ta_ 7 (some 63) (bm 11 255) hHeld (fun _ hSw => (blk_cell hSw.2 5).trans rfl) ?_
  refine last_ (i := 8) (N := (some 64)) (bm 11 511) rfl rfl (by kernel_rfl) (by decide) (fun K hK => ?_)
  refine goes_ Tryz.func43 (by kernel_rfl) rfl #[.pointer (some ⟨F, 0, none⟩), .int .i64 a, .string f5] (by rfl) rfl rfl (by try simp only [List.map_toArray, List.map_cons, List.map_nil]; first | done | rfl) ?_
  have hC5 := hHeld.1
  refine (hop _ hC5).mono ?_
  rintro e w5 ⟨rfl, hF5, hS5⟩
  refine ⟨_, rfl, ?_⟩
  refine hK.out _ _ ?_
  clear hK K
  refine norm_ (a' := ?_) ?_ ?_
  rotate_left
  · show Act.put _ (some 64) _ = _
    simp only [Act.put, List.setIfInBounds_toArray, List.set_cons_zero, List.set_cons_succ]
    rfl
  refine pu_ 9 (some 6) (bm 11 1023) ?_
  refine pu_ 10 (some 7) (bm 11 2047) ?_
  refine done_ (by kernel_rfl) ?_
  go_wp2
  go_ret2
  exact WoC.yes (WoStep.same hC5) ((h.out.below hC5).setF hF5 hwf.out hS5) HF.out
theorem dop4_any {cl : Nat → Nat} {w0 w : World} {Wb F L B calls : Nat} {st : St} (h : WoC cl w0 w Wb F L B calls st) (hO : LayO w) (hT : SgOk st.sg) (f1 f2 f3 f4 : Int) (f5 : ByteArray) (ctx : Int) (hr : rightO ⟨4, f1, f2, f3, f4, f5⟩ = true) :
    Calls Tryz.prog 28 #[.pointer (some ⟨Wb, 0, none⟩), opV ⟨4, f1, f2, f3, f4, f5⟩, .int .i64 ctx] w (WoPost cl w0 w Wb F L B calls (doW calls st ⟨4, f1, f2, f3, f4, f5⟩ ctx)) := by
  have hb := fun Z => below_alloc (Below.refl w.heap.size w) Z
  obtain ⟨v, hWb⟩ := h.wb
  have hri := fun W (hW : Below w.heap.size w W) => oright_any ⟨4, f1, f2, f3, f4, f5⟩ W (hO.below hW)
  rw [hr] at hri
  have hm1 := fun W (hW : Below w.heap.size w W) => meant_any (h.below hW) f1 ctx
  have hm2 := fun W (hW : Below w.heap.size w W) => meant_any (h.below hW) f2 ctx
  have hm3 := fun W (hW : Below w.heap.size w W) => meant_any (h.below hW) f3 ctx
  have hnm := fun W (hW : Below w.heap.size w W) => oname_any 4 W (hO.below hW)
  rw [show nameW 4 = ⟨#[97, 112, 112, 101, 110, 100]⟩ from rfl] at hnm
  have HF : doW calls st ⟨4, f1, f2, f3, f4, f5⟩ ctx = doA calls st ⟨4, f1, f2, f3, f4, f5⟩ (meantF st.ev f1 ctx) (meantF st.ev f2 ctx) (meantF st.ev f3 ctx) := if_neg (by rw [hr]; simp)
  generalize meantF st.ev f1 ctx = a at *
  generalize meantF st.ev f2 ctx = b at *
  generalize meantF st.ev f3 ctx = c at *
  rw [show doA calls st ⟨4, f1, f2, f3, f4, f5⟩ a b c = ({ st with l := befF st.l a b 0 }, 0, befE st.l a b 0) from rfl] at HF
  replace HF := hd_ HF
  generalize doW calls st ⟨4, f1, f2, f3, f4, f5⟩ ctx = dr at *
  have hop := fun W (hW : Below w.heap.size w W) => append_any _ w0 F a b st.l W (h.below hW).fo h.wf
  generalize befE st.l a b 0 = ee at *
  generalize befF st.l a b 0 = l' at *
  unfold EdPost at hop
  simp only [opV] at hri ⊢
  clear hr hO hT
  replace h := hd_ h
  go_enter Tryz.func28, Tryz.ntmps28
  go_wp2_with (go_at_call 27; (with_reducible refine (hri _ (hb _)).mono ?_); rintro e w1 ⟨rfl, hB1⟩; have hC1 := below_then (hb _) (hb _).size hB1; have hX1 := blk_below (blk_new w (.cells #[.int .i64 4, .int .i64 f1, .int .i64 f2, .int .i64 f3, .int .i64 f4, .string f5] 39)) hB1)
  refine start_ (n := 18) (S := (fun W_ => Below w.heap.size w W_ ∧ W_.heap[w.heap.size]? = some (.cells #[.int .i64 4, .int .i64 f1, .int .i64 f2, .int .i64 f3, .int .i64 f4, .string f5] 39 (0, 0)))) (ds := []) (bm 18 0) (by kernel_rfl) rfl (by kernel_rfl) ⟨below_drew hC1, hX1⟩ (fun hHeld => ?_)
  refine pu_ 0 (some 18) (bm 18 1) ?_
  refine pu_ 1 (some 19) (bm 18 3) ?_
  refine ta_ 2 (some 20) (bm 18 7) hHeld (fun _ hSw => (blk_cell hSw.2 1).trans rfl) ?_
  refine pu_ 3 (some 21) (bm 18 15) ?_
  refine pu_ 5 (some 23) (bm 18 47) ?_
  refine pu_ 6 (some 24) (bm 18 111) ?_
  refine ta_ 7 (some 25) (bm 18 239) hHeld (fun _ hSw => (blk_cell hSw.2 2).trans rfl) ?_
  refine pu_ 8 (some 26) (bm 18 495) ?_
  refine pu_ 10 (some 28) (bm 18 1519) ?_
  refine pu_ 11 (some 29) (bm 18 3567) ?_
  refine ta_ 12 (some 30) (bm 18 7663) hHeld (fun _ hSw => (blk_cell hSw.2 3).trans rfl) ?_
  refine pu_ 13 (some 31) (bm 18 15855) ?_
  refine one_ (i := 4) (N := (some 22)) (bm 18 15871) rfl rfl (by kernel_rfl) (by decide) (fun K hK => ?_)
  refine goes_ Tryz.func30 (by kernel_rfl) rfl #[.pointer (some ⟨Wb, 0, none⟩), .int .i64 f1, .int .i64 ctx] (by rfl) rfl rfl (by try simp only [List.map_toArray, List.map_cons, List.map_nil]; first | done | rfl) ?_
  refine (hm1 _ hHeld.1).mono ?_
  rintro e w' ⟨rfl, hw⟩
  obtain rfl := hw.symm
  refine ⟨_, rfl, ?_⟩
  refine hK.out _ _ hHeld (fun hHeld => ?_)
  clear hK K
  refine norm_ (a' := ?_) ?_ ?_
  rotate_left
  · show Act.put _ (some 22) _ = _
    simp only [Act.put, List.setIfInBounds_toArray, List.set_cons_zero, List.set_cons_succ]
    rfl
  refine one_ (i := 9) (N := (some 27)) (bm 18 16383) rfl rfl (by kernel_rfl) (by decide) (fun K hK => ?_)
  refine goes_ Tryz.func30 (by kernel_rfl) rfl #[.pointer (some ⟨Wb, 0, none⟩), .int .i64 f2, .int .i64 ctx] (by rfl) rfl rfl (by try simp only [List.map_toArray, List.map_cons, List.map_nil]; first | done | rfl) ?_
  refine (hm2 _ hHeld.1).mono ?_
  rintro e w' ⟨rfl, hw⟩
  obtain rfl := hw.symm
  refine ⟨_, rfl, ?_⟩
  refine hK.out _ _ hHeld (fun hHeld => ?_)
  clear hK K
  refine norm_ (a' := ?_) ?_ ?_
  rotate_left
  · show Act.put _ (some 27) _ = _
    simp only [Act.put, List.setIfInBounds_toArray, List.set_cons_zero, List.set_cons_succ]
    rfl
  refine one_ (i := 14) (N := (some 32)) (bm 18 32767) rfl rfl (by kernel_rfl) (by decide) (fun K hK => ?_)
  refine goes_ Tryz.func30 (by kernel_rfl) rfl #[.pointer (some ⟨Wb, 0, none⟩), .int .i64 f3, .int .i64 ctx] (by rfl) rfl rfl (by try simp only [List.map_toArray, List.map_cons, List.map_nil]; first | done | rfl) ?_
  refine (hm3 _ hHeld.1).mono ?_
  rintro e w' ⟨rfl, hw⟩
  obtain rfl := hw.symm
  refine ⟨_, rfl, ?_⟩
  refine hK.out _ _ hHeld (fun hHeld => ?_)
  clear hK K
  refine norm_ (a' := ?_) ?_ ?_
  rotate_left
  · show Act.put _ (some 32) _ = _
    simp only [Act.put, List.setIfInBounds_toArray, List.set_cons_zero, List.set_cons_succ]
    rfl
  refine pu_ 15 (some 8) (bm 18 65535) ?_
  refine pu_ 16 (some 9) (bm 18 131071) ?_
  refine pu_ 17 (some 10) (bm 18 262143) ?_
  refine done_ (by kernel_rfl) ?_
  have hC5 := hHeld.1
  have hX2 := hHeld.2
  have z0 := (blk_cell (blk_below hWb hC5) 0).trans rfl
  have c0 := (blk_cell hX2 0).trans rfl
  have c1 := (blk_cell hX2 1).trans rfl
  have c2 := (blk_cell hX2 2).trans rfl
  have c3 := (blk_cell hX2 3).trans rfl
  have c4 := (blk_cell hX2 4).trans rfl
  have c5 := (blk_cell hX2 5).trans rfl
  go_wp2_with (first
    | (go_at_call 23; (with_reducible refine (hnm _ hHeld.1).mono ?_); rintro e w' ⟨rfl, hw⟩; obtain rfl := hw.symm)
    | (go_at_call 44; (with_reducible refine (hop _ hC5).mono ?_); rintro e w5 ⟨rfl, hwf, hF5, hS5⟩))
  go_ret2
  exact WoC.yes (WoStep.same hC5) ((h.out.below hC5).setF hF5 hwf hS5) HF.out
theorem dop5_any {cl : Nat → Nat} {w0 w : World} {Wb F L B calls : Nat} {st : St} (h : WoC cl w0 w Wb F L B calls st) (hO : LayO w) (hT : SgOk st.sg) (f1 f2 f3 f4 : Int) (f5 : ByteArray) (ctx : Int) (hr : rightO ⟨5, f1, f2, f3, f4, f5⟩ = true) :
    Calls Tryz.prog 28 #[.pointer (some ⟨Wb, 0, none⟩), opV ⟨5, f1, f2, f3, f4, f5⟩, .int .i64 ctx] w (WoPost cl w0 w Wb F L B calls (doW calls st ⟨5, f1, f2, f3, f4, f5⟩ ctx)) := by
  have hb := fun Z => below_alloc (Below.refl w.heap.size w) Z
  obtain ⟨v, hWb⟩ := h.wb
  have hri := fun W (hW : Below w.heap.size w W) => oright_any ⟨5, f1, f2, f3, f4, f5⟩ W (hO.below hW)
  rw [hr] at hri
  have hm1 := fun W (hW : Below w.heap.size w W) => meant_any (h.below hW) f1 ctx
  have hm2 := fun W (hW : Below w.heap.size w W) => meant_any (h.below hW) f2 ctx
  have hm3 := fun W (hW : Below w.heap.size w W) => meant_any (h.below hW) f3 ctx
  have hnm := fun W (hW : Below w.heap.size w W) => oname_any 5 W (hO.below hW)
  rw [show nameW 5 = ⟨#[98, 101, 102, 111, 114, 101]⟩ from rfl] at hnm
  have HF : doW calls st ⟨5, f1, f2, f3, f4, f5⟩ ctx = doA calls st ⟨5, f1, f2, f3, f4, f5⟩ (meantF st.ev f1 ctx) (meantF st.ev f2 ctx) (meantF st.ev f3 ctx) := if_neg (by rw [hr]; simp)
  generalize meantF st.ev f1 ctx = a at *
  generalize meantF st.ev f2 ctx = b at *
  generalize meantF st.ev f3 ctx = c at *
  rw [show doA calls st ⟨5, f1, f2, f3, f4, f5⟩ a b c = ({ st with l := befF st.l a b c }, 0, befE st.l a b c) from rfl] at HF
  replace HF := hd_ HF
  generalize doW calls st ⟨5, f1, f2, f3, f4, f5⟩ ctx = dr at *
  have hop := fun W (hW : Below w.heap.size w W) => before_any _ w0 F a b c st.l W (h.below hW).fo h.wf
  generalize befE st.l a b c = ee at *
  generalize befF st.l a b c = l' at *
  unfold EdPost at hop
  simp only [opV] at hri ⊢
  clear hr hO hT
  replace h := hd_ h
  go_enter Tryz.func28, Tryz.ntmps28
  go_wp2_with (go_at_call 27; (with_reducible refine (hri _ (hb _)).mono ?_); rintro e w1 ⟨rfl, hB1⟩; have hC1 := below_then (hb _) (hb _).size hB1; have hX1 := blk_below (blk_new w (.cells #[.int .i64 5, .int .i64 f1, .int .i64 f2, .int .i64 f3, .int .i64 f4, .string f5] 39)) hB1)
  refine start_ (n := 18) (S := (fun W_ => Below w.heap.size w W_ ∧ W_.heap[w.heap.size]? = some (.cells #[.int .i64 5, .int .i64 f1, .int .i64 f2, .int .i64 f3, .int .i64 f4, .string f5] 39 (0, 0)))) (ds := []) (bm 18 0) (by kernel_rfl) rfl (by kernel_rfl) ⟨below_drew hC1, hX1⟩ (fun hHeld => ?_)
  refine pu_ 0 (some 18) (bm 18 1) ?_
  refine pu_ 1 (some 19) (bm 18 3) ?_
  refine ta_ 2 (some 20) (bm 18 7) hHeld (fun _ hSw => (blk_cell hSw.2 1).trans rfl) ?_
  refine pu_ 3 (some 21) (bm 18 15) ?_
  refine pu_ 5 (some 23) (bm 18 47) ?_
  refine pu_ 6 (some 24) (bm 18 111) ?_
  refine ta_ 7 (some 25) (bm 18 239) hHeld (fun _ hSw => (blk_cell hSw.2 2).trans rfl) ?_
  refine pu_ 8 (some 26) (bm 18 495) ?_
  refine pu_ 10 (some 28) (bm 18 1519) ?_
  refine pu_ 11 (some 29) (bm 18 3567) ?_
  refine ta_ 12 (some 30) (bm 18 7663) hHeld (fun _ hSw => (blk_cell hSw.2 3).trans rfl) ?_
  refine pu_ 13 (some 31) (bm 18 15855) ?_
  refine one_ (i := 4) (N := (some 22)) (bm 18 15871) rfl rfl (by kernel_rfl) (by decide) (fun K hK => ?_)
  refine goes_ Tryz.func30 (by kernel_rfl) rfl #[.pointer (some ⟨Wb, 0, none⟩), .int .i64 f1, .int .i64 ctx] (by rfl) rfl rfl (by try simp only [List.map_toArray, List.map_cons, List.map_nil]; first | done | rfl) ?_
  refine (hm1 _ hHeld.1).mono ?_
  rintro e w' ⟨rfl, hw⟩
  obtain rfl := hw.symm
  refine ⟨_, rfl, ?_⟩
  refine hK.out _ _ hHeld (fun hHeld => ?_)
  clear hK K
  refine norm_ (a' := ?_) ?_ ?_
  rotate_left
  · show Act.put _ (some 22) _ = _
    simp only [Act.put, List.setIfInBounds_toArray, List.set_cons_zero, List.set_cons_succ]
    rfl
  refine one_ (i := 9) (N := (some 27)) (bm 18 16383) rfl rfl (by kernel_rfl) (by decide) (fun K hK => ?_)
  refine goes_ Tryz.func30 (by kernel_rfl) rfl #[.pointer (some ⟨Wb, 0, none⟩), .int .i64 f2, .int .i64 ctx] (by rfl) rfl rfl (by try simp only [List.map_toArray, List.map_cons, List.map_nil]; first | done | rfl) ?_
  refine (hm2 _ hHeld.1).mono ?_
  rintro e w' ⟨rfl, hw⟩
  obtain rfl := hw.symm
  refine ⟨_, rfl, ?_⟩
  refine hK.out _ _ hHeld (fun hHeld => ?_)
  clear hK K
  refine norm_ (a' := ?_) ?_ ?_
  rotate_left
  · show Act.put _ (some 27) _ = _
    simp only [Act.put, List.setIfInBounds_toArray, List.set_cons_zero, List.set_cons_succ]
    rfl
  refine one_ (i := 14) (N := (some 32)) (bm 18 32767) rfl rfl (by kernel_rfl) (by decide) (fun K hK => ?_)
  refine goes_ Tryz.func30 (by kernel_rfl) rfl #[.pointer (some ⟨Wb, 0, none⟩), .int .i64 f3, .int .i64 ctx] (by rfl) rfl rfl (by try simp only [List.map_toArray, List.map_cons, List.map_nil]; first | done | rfl) ?_
  refine (hm3 _ hHeld.1).mono ?_
  rintro e w' ⟨rfl, hw⟩
  obtain rfl := hw.symm
  refine ⟨_, rfl, ?_⟩
  refine hK.out _ _ hHeld (fun hHeld => ?_)
  clear hK K
  refine norm_ (a' := ?_) ?_ ?_
  rotate_left
  · show Act.put _ (some 32) _ = _
    simp only [Act.put, List.setIfInBounds_toArray, List.set_cons_zero, List.set_cons_succ]
    rfl
  refine pu_ 15 (some 8) (bm 18 65535) ?_
  refine pu_ 16 (some 9) (bm 18 131071) ?_
  refine pu_ 17 (some 10) (bm 18 262143) ?_
  refine done_ (by kernel_rfl) ?_
  have hC5 := hHeld.1
  have hX2 := hHeld.2
  have z0 := (blk_cell (blk_below hWb hC5) 0).trans rfl
  have c0 := (blk_cell hX2 0).trans rfl
  have c1 := (blk_cell hX2 1).trans rfl
  have c2 := (blk_cell hX2 2).trans rfl
  have c3 := (blk_cell hX2 3).trans rfl
  have c4 := (blk_cell hX2 4).trans rfl
  have c5 := (blk_cell hX2 5).trans rfl
  go_wp2_with (first
    | (go_at_call 23; (with_reducible refine (hnm _ hHeld.1).mono ?_); rintro e w' ⟨rfl, hw⟩; obtain rfl := hw.symm)
    | (go_at_call 45; (with_reducible refine (hop _ hC5).mono ?_); rintro e w5 ⟨rfl, hwf, hF5, hS5⟩))
  go_ret2
  exact WoC.yes (WoStep.same hC5) ((h.out.below hC5).setF hF5 hwf hS5) HF.out
theorem dop6_any {cl : Nat → Nat} {w0 w : World} {Wb F L B calls : Nat} {st : St} (h : WoC cl w0 w Wb F L B calls st) (hO : LayO w) (hT : SgOk st.sg) (f1 f2 f3 f4 : Int) (f5 : ByteArray) (ctx : Int) (hr : rightO ⟨6, f1, f2, f3, f4, f5⟩ = true) :
    Calls Tryz.prog 28 #[.pointer (some ⟨Wb, 0, none⟩), opV ⟨6, f1, f2, f3, f4, f5⟩, .int .i64 ctx] w (WoPost cl w0 w Wb F L B calls (doW calls st ⟨6, f1, f2, f3, f4, f5⟩ ctx)) := by
  have hb := fun Z => below_alloc (Below.refl w.heap.size w) Z
  obtain ⟨v, hWb⟩ := h.wb
  have hri := fun W (hW : Below w.heap.size w W) => oright_any ⟨6, f1, f2, f3, f4, f5⟩ W (hO.below hW)
  rw [hr] at hri
  have hm1 := fun W (hW : Below w.heap.size w W) => meant_any (h.below hW) f1 ctx
  have hm2 := fun W (hW : Below w.heap.size w W) => meant_any (h.below hW) f2 ctx
  have hm3 := fun W (hW : Below w.heap.size w W) => meant_any (h.below hW) f3 ctx
  have hnm := fun W (hW : Below w.heap.size w W) => oname_any 6 W (hO.below hW)
  rw [show nameW 6 = ⟨#[114, 101, 109, 111, 118, 101]⟩ from rfl] at hnm
  have HF : doW calls st ⟨6, f1, f2, f3, f4, f5⟩ ctx = doA calls st ⟨6, f1, f2, f3, f4, f5⟩ (meantF st.ev f1 ctx) (meantF st.ev f2 ctx) (meantF st.ev f3 ctx) := if_neg (by rw [hr]; simp)
  generalize meantF st.ev f1 ctx = a at *
  generalize meantF st.ev f2 ctx = b at *
  generalize meantF st.ev f3 ctx = c at *
  rw [show doA calls st ⟨6, f1, f2, f3, f4, f5⟩ a b c = ({ st with l := removeF st.l a b }, 0, removeE st.l a b) from rfl] at HF
  replace HF := hd_ HF
  generalize doW calls st ⟨6, f1, f2, f3, f4, f5⟩ ctx = dr at *
  have hop := fun W (hW : Below w.heap.size w W) => remove_any _ w0 F a b st.l W (h.below hW).fo h.wf
  generalize removeE st.l a b = ee at *
  generalize removeF st.l a b = l' at *
  unfold EdPost at hop
  simp only [opV] at hri ⊢
  clear hr hO hT
  replace h := hd_ h
  go_enter Tryz.func28, Tryz.ntmps28
  go_wp2_with (go_at_call 27; (with_reducible refine (hri _ (hb _)).mono ?_); rintro e w1 ⟨rfl, hB1⟩; have hC1 := below_then (hb _) (hb _).size hB1; have hX1 := blk_below (blk_new w (.cells #[.int .i64 6, .int .i64 f1, .int .i64 f2, .int .i64 f3, .int .i64 f4, .string f5] 39)) hB1)
  refine start_ (n := 18) (S := (fun W_ => Below w.heap.size w W_ ∧ W_.heap[w.heap.size]? = some (.cells #[.int .i64 6, .int .i64 f1, .int .i64 f2, .int .i64 f3, .int .i64 f4, .string f5] 39 (0, 0)))) (ds := []) (bm 18 0) (by kernel_rfl) rfl (by kernel_rfl) ⟨below_drew hC1, hX1⟩ (fun hHeld => ?_)
  refine pu_ 0 (some 18) (bm 18 1) ?_
  refine pu_ 1 (some 19) (bm 18 3) ?_
  refine ta_ 2 (some 20) (bm 18 7) hHeld (fun _ hSw => (blk_cell hSw.2 1).trans rfl) ?_
  refine pu_ 3 (some 21) (bm 18 15) ?_
  refine pu_ 5 (some 23) (bm 18 47) ?_
  refine pu_ 6 (some 24) (bm 18 111) ?_
  refine ta_ 7 (some 25) (bm 18 239) hHeld (fun _ hSw => (blk_cell hSw.2 2).trans rfl) ?_
  refine pu_ 8 (some 26) (bm 18 495) ?_
  refine pu_ 10 (some 28) (bm 18 1519) ?_
  refine pu_ 11 (some 29) (bm 18 3567) ?_
  refine ta_ 12 (some 30) (bm 18 7663) hHeld (fun _ hSw => (blk_cell hSw.2 3).trans rfl) ?_
  refine pu_ 13 (some 31) (bm 18 15855) ?_
  refine one_ (i := 4) (N := (some 22)) (bm 18 15871) rfl rfl (by kernel_rfl) (by decide) (fun K hK => ?_)
  refine goes_ Tryz.func30 (by kernel_rfl) rfl #[.pointer (some ⟨Wb, 0, none⟩), .int .i64 f1, .int .i64 ctx] (by rfl) rfl rfl (by try simp only [List.map_toArray, List.map_cons, List.map_nil]; first | done | rfl) ?_
  refine (hm1 _ hHeld.1).mono ?_
  rintro e w' ⟨rfl, hw⟩
  obtain rfl := hw.symm
  refine ⟨_, rfl, ?_⟩
  refine hK.out _ _ hHeld (fun hHeld => ?_)
  clear hK K
  refine norm_ (a' := ?_) ?_ ?_
  rotate_left
  · show Act.put _ (some 22) _ = _
    simp only [Act.put, List.setIfInBounds_toArray, List.set_cons_zero, List.set_cons_succ]
    rfl
  refine one_ (i := 9) (N := (some 27)) (bm 18 16383) rfl rfl (by kernel_rfl) (by decide) (fun K hK => ?_)
  refine goes_ Tryz.func30 (by kernel_rfl) rfl #[.pointer (some ⟨Wb, 0, none⟩), .int .i64 f2, .int .i64 ctx] (by rfl) rfl rfl (by try simp only [List.map_toArray, List.map_cons, List.map_nil]; first | done | rfl) ?_
  refine (hm2 _ hHeld.1).mono ?_
  rintro e w' ⟨rfl, hw⟩
  obtain rfl := hw.symm
  refine ⟨_, rfl, ?_⟩
  refine hK.out _ _ hHeld (fun hHeld => ?_)
  clear hK K
  refine norm_ (a' := ?_) ?_ ?_
  rotate_left
  · show Act.put _ (some 27) _ = _
    simp only [Act.put, List.setIfInBounds_toArray, List.set_cons_zero, List.set_cons_succ]
    rfl
  refine one_ (i := 14) (N := (some 32)) (bm 18 32767) rfl rfl (by kernel_rfl) (by decide) (fun K hK => ?_)
  refine goes_ Tryz.func30 (by kernel_rfl) rfl #[.pointer (some ⟨Wb, 0, none⟩), .int .i64 f3, .int .i64 ctx] (by rfl) rfl rfl (by try simp only [List.map_toArray, List.map_cons, List.map_nil]; first | done | rfl) ?_
  refine (hm3 _ hHeld.1).mono ?_
  rintro e w' ⟨rfl, hw⟩
  obtain rfl := hw.symm
  refine ⟨_, rfl, ?_⟩
  refine hK.out _ _ hHeld (fun hHeld => ?_)
  clear hK K
  refine norm_ (a' := ?_) ?_ ?_
  rotate_left
  · show Act.put _ (some 32) _ = _
    simp only [Act.put, List.setIfInBounds_toArray, List.set_cons_zero, List.set_cons_succ]
    rfl
  refine pu_ 15 (some 8) (bm 18 65535) ?_
  refine pu_ 16 (some 9) (bm 18 131071) ?_
  refine pu_ 17 (some 10) (bm 18 262143) ?_
  refine done_ (by kernel_rfl) ?_
  have hC5 := hHeld.1
  have hX2 := hHeld.2
  have z0 := (blk_cell (blk_below hWb hC5) 0).trans rfl
  have c0 := (blk_cell hX2 0).trans rfl
  have c1 := (blk_cell hX2 1).trans rfl
  have c2 := (blk_cell hX2 2).trans rfl
  have c3 := (blk_cell hX2 3).trans rfl
  have c4 := (blk_cell hX2 4).trans rfl
  have c5 := (blk_cell hX2 5).trans rfl
  go_wp2_with (first
    | (go_at_call 23; (with_reducible refine (hnm _ hHeld.1).mono ?_); rintro e w' ⟨rfl, hw⟩; obtain rfl := hw.symm)
    | (go_at_call 46; (with_reducible refine (hop _ hC5).mono ?_); rintro e w5 ⟨rfl, hwf, hF5, hS5⟩))
  go_ret2
  exact WoC.yes (WoStep.same hC5) ((h.out.below hC5).setF hF5 hwf hS5) HF.out
theorem dop17_any {cl : Nat → Nat} {w0 w : World} {Wb F L B calls : Nat} {st : St} (h : WoC cl w0 w Wb F L B calls st) (hO : LayO w) (hT : SgOk st.sg) (f1 f2 f3 f4 : Int) (f5 : ByteArray) (ctx : Int) (hr : rightO ⟨17, f1, f2, f3, f4, f5⟩ = true) :
    Calls Tryz.prog 28 #[.pointer (some ⟨Wb, 0, none⟩), opV ⟨17, f1, f2, f3, f4, f5⟩, .int .i64 ctx] w (WoPost cl w0 w Wb F L B calls (doW calls st ⟨17, f1, f2, f3, f4, f5⟩ ctx)) := by
  have hb := fun Z => below_alloc (Below.refl w.heap.size w) Z
  obtain ⟨v, hWb⟩ := h.wb
  have hri := fun W (hW : Below w.heap.size w W) => oright_any ⟨17, f1, f2, f3, f4, f5⟩ W (hO.below hW)
  rw [hr] at hri
  have hm1 := fun W (hW : Below w.heap.size w W) => meant_any (h.below hW) f1 ctx
  have hm2 := fun W (hW : Below w.heap.size w W) => meant_any (h.below hW) f2 ctx
  have hm3 := fun W (hW : Below w.heap.size w W) => meant_any (h.below hW) f3 ctx
  have hnm := fun W (hW : Below w.heap.size w W) => oname_any 17 W (hO.below hW)
  rw [show nameW 17 = ⟨#[99, 108, 101, 97, 114]⟩ from rfl] at hnm
  have HF : doW calls st ⟨17, f1, f2, f3, f4, f5⟩ ctx = doA calls st ⟨17, f1, f2, f3, f4, f5⟩ (meantF st.ev f1 ctx) (meantF st.ev f2 ctx) (meantF st.ev f3 ctx) := if_neg (by rw [hr]; simp)
  generalize meantF st.ev f1 ctx = a at *
  generalize meantF st.ev f2 ctx = b at *
  generalize meantF st.ev f3 ctx = c at *
  rw [show doA calls st ⟨17, f1, f2, f3, f4, f5⟩ a b c = ({ st with l := putF st.l a [] }, 0, putE st.l a []) from rfl] at HF
  replace HF := hd_ HF
  generalize doW calls st ⟨17, f1, f2, f3, f4, f5⟩ ctx = dr at *
  have hop := fun W (hW : Below w.heap.size w W) => clear_any _ w0 F a st.l W (h.below hW).fo h.wf
  generalize putE st.l a [] = ee at *
  generalize putF st.l a [] = l' at *
  unfold EdPost at hop
  simp only [opV] at hri ⊢
  clear hr hO hT
  replace h := hd_ h
  go_enter Tryz.func28, Tryz.ntmps28
  go_wp2_with (go_at_call 27; (with_reducible refine (hri _ (hb _)).mono ?_); rintro e w1 ⟨rfl, hB1⟩; have hC1 := below_then (hb _) (hb _).size hB1; have hX1 := blk_below (blk_new w (.cells #[.int .i64 17, .int .i64 f1, .int .i64 f2, .int .i64 f3, .int .i64 f4, .string f5] 39)) hB1)
  refine start_ (n := 18) (S := (fun W_ => Below w.heap.size w W_ ∧ W_.heap[w.heap.size]? = some (.cells #[.int .i64 17, .int .i64 f1, .int .i64 f2, .int .i64 f3, .int .i64 f4, .string f5] 39 (0, 0)))) (ds := []) (bm 18 0) (by kernel_rfl) rfl (by kernel_rfl) ⟨below_drew hC1, hX1⟩ (fun hHeld => ?_)
  refine pu_ 0 (some 18) (bm 18 1) ?_
  refine pu_ 1 (some 19) (bm 18 3) ?_
  refine ta_ 2 (some 20) (bm 18 7) hHeld (fun _ hSw => (blk_cell hSw.2 1).trans rfl) ?_
  refine pu_ 3 (some 21) (bm 18 15) ?_
  refine pu_ 5 (some 23) (bm 18 47) ?_
  refine pu_ 6 (some 24) (bm 18 111) ?_
  refine ta_ 7 (some 25) (bm 18 239) hHeld (fun _ hSw => (blk_cell hSw.2 2).trans rfl) ?_
  refine pu_ 8 (some 26) (bm 18 495) ?_
  refine pu_ 10 (some 28) (bm 18 1519) ?_
  refine pu_ 11 (some 29) (bm 18 3567) ?_
  refine ta_ 12 (some 30) (bm 18 7663) hHeld (fun _ hSw => (blk_cell hSw.2 3).trans rfl) ?_
  refine pu_ 13 (some 31) (bm 18 15855) ?_
  refine one_ (i := 4) (N := (some 22)) (bm 18 15871) rfl rfl (by kernel_rfl) (by decide) (fun K hK => ?_)
  refine goes_ Tryz.func30 (by kernel_rfl) rfl #[.pointer (some ⟨Wb, 0, none⟩), .int .i64 f1, .int .i64 ctx] (by rfl) rfl rfl (by try simp only [List.map_toArray, List.map_cons, List.map_nil]; first | done | rfl) ?_
  refine (hm1 _ hHeld.1).mono ?_
  rintro e w' ⟨rfl, hw⟩
  obtain rfl := hw.symm
  refine ⟨_, rfl, ?_⟩
  refine hK.out _ _ hHeld (fun hHeld => ?_)
  clear hK K
  refine norm_ (a' := ?_) ?_ ?_
  rotate_left
  · show Act.put _ (some 22) _ = _
    simp only [Act.put, List.setIfInBounds_toArray, List.set_cons_zero, List.set_cons_succ]
    rfl
  refine one_ (i := 9) (N := (some 27)) (bm 18 16383) rfl rfl (by kernel_rfl) (by decide) (fun K hK => ?_)
  refine goes_ Tryz.func30 (by kernel_rfl) rfl #[.pointer (some ⟨Wb, 0, none⟩), .int .i64 f2, .int .i64 ctx] (by rfl) rfl rfl (by try simp only [List.map_toArray, List.map_cons, List.map_nil]; first | done | rfl) ?_
  refine (hm2 _ hHeld.1).mono ?_
  rintro e w' ⟨rfl, hw⟩
  obtain rfl := hw.symm
  refine ⟨_, rfl, ?_⟩
  refine hK.out _ _ hHeld (fun hHeld => ?_)
  clear hK K
  refine norm_ (a' := ?_) ?_ ?_
  rotate_left
  · show Act.put _ (some 27) _ = _
    simp only [Act.put, List.setIfInBounds_toArray, List.set_cons_zero, List.set_cons_succ]
    rfl
  refine one_ (i := 14) (N := (some 32)) (bm 18 32767) rfl rfl (by kernel_rfl) (by decide) (fun K hK => ?_)
  refine goes_ Tryz.func30 (by kernel_rfl) rfl #[.pointer (some ⟨Wb, 0, none⟩), .int .i64 f3, .int .i64 ctx] (by rfl) rfl rfl (by try simp only [List.map_toArray, List.map_cons, List.map_nil]; first | done | rfl) ?_
  refine (hm3 _ hHeld.1).mono ?_
  rintro e w' ⟨rfl, hw⟩
  obtain rfl := hw.symm
  refine ⟨_, rfl, ?_⟩
  refine hK.out _ _ hHeld (fun hHeld => ?_)
  clear hK K
  refine norm_ (a' := ?_) ?_ ?_
  rotate_left
  · show Act.put _ (some 32) _ = _
    simp only [Act.put, List.setIfInBounds_toArray, List.set_cons_zero, List.set_cons_succ]
    rfl
  refine pu_ 15 (some 8) (bm 18 65535) ?_
  refine pu_ 16 (some 9) (bm 18 131071) ?_
  refine pu_ 17 (some 10) (bm 18 262143) ?_
  refine done_ (by kernel_rfl) ?_
  have hC5 := hHeld.1
  have hX2 := hHeld.2
  have z0 := (blk_cell (blk_below hWb hC5) 0).trans rfl
  have c0 := (blk_cell hX2 0).trans rfl
  have c1 := (blk_cell hX2 1).trans rfl
  have c2 := (blk_cell hX2 2).trans rfl
  have c3 := (blk_cell hX2 3).trans rfl
  have c4 := (blk_cell hX2 4).trans rfl
  have c5 := (blk_cell hX2 5).trans rfl
  go_wp2_with (first
    | (go_at_call 23; (with_reducible refine (hnm _ hHeld.1).mono ?_); rintro e w' ⟨rfl, hw⟩; obtain rfl := hw.symm)
    | (go_at_call 47; (with_reducible refine (hop _ hC5).mono ?_); rintro e w5 ⟨rfl, hwf, hF5, hS5⟩))
  go_ret2
  exact WoC.yes (WoStep.same hC5) ((h.out.below hC5).setF hF5 hwf hS5) HF.out
theorem dop7_any {cl : Nat → Nat} {w0 w : World} {Wb F L B calls : Nat} {st : St} (h : WoC cl w0 w Wb F L B calls st) (hO : LayO w) (hT : SgOk st.sg) (f1 f2 f3 f4 : Int) (f5 : ByteArray) (ctx : Int) (hr : rightO ⟨7, f1, f2, f3, f4, f5⟩ = true) :
    Calls Tryz.prog 28 #[.pointer (some ⟨Wb, 0, none⟩), opV ⟨7, f1, f2, f3, f4, f5⟩, .int .i64 ctx] w (WoPost cl w0 w Wb F L B calls (doW calls st ⟨7, f1, f2, f3, f4, f5⟩ ctx)) := by
  have hb := fun Z => below_alloc (Below.refl w.heap.size w) Z
  obtain ⟨v, hWb⟩ := h.wb
  have hri := fun W (hW : Below w.heap.size w W) => oright_any ⟨7, f1, f2, f3, f4, f5⟩ W (hO.below hW)
  rw [hr] at hri
  have hm1 := fun W (hW : Below w.heap.size w W) => meant_any (h.below hW) f1 ctx
  have hm2 := fun W (hW : Below w.heap.size w W) => meant_any (h.below hW) f2 ctx
  have hm3 := fun W (hW : Below w.heap.size w W) => meant_any (h.below hW) f3 ctx
  have hnm := fun W (hW : Below w.heap.size w W) => oname_any 7 W (hO.below hW)
  rw [show nameW 7 = ⟨#[97, 116, 116, 97, 99, 104]⟩ from rfl] at hnm
  have HF : doW calls st ⟨7, f1, f2, f3, f4, f5⟩ ctx = doA calls st ⟨7, f1, f2, f3, f4, f5⟩ (meantF st.ev f1 ctx) (meantF st.ev f2 ctx) (meantF st.ev f3 ctx) := if_neg (by rw [hr]; simp)
  generalize meantF st.ev f1 ctx = a at *
  generalize meantF st.ev f2 ctx = b at *
  generalize meantF st.ev f3 ctx = c at *
  rw [show doA calls st ⟨7, f1, f2, f3, f4, f5⟩ a b c = ({ st with l := (attR st.l a f2).1 }, (attR st.l a f2).2) from rfl] at HF
  replace HF := hd_ HF
  generalize doW calls st ⟨7, f1, f2, f3, f4, f5⟩ ctx = dr at *
  have hop := fun W (hW : Below w.heap.size w W) => attach_any _ w0 F a f2 st.l W (h.below hW).fo h.wf
  generalize attR st.l a f2 = r at *
  obtain ⟨l', r2, r3⟩ := r
  unfold AtPost at hop
  dsimp only at hop
  simp only [opV] at hri ⊢
  clear hr hO hT
  replace h := hd_ h
  go_enter Tryz.func28, Tryz.ntmps28
  go_wp2_with (go_at_call 27; (with_reducible refine (hri _ (hb _)).mono ?_); rintro e w1 ⟨rfl, hB1⟩; have hC1 := below_then (hb _) (hb _).size hB1; have hX1 := blk_below (blk_new w (.cells #[.int .i64 7, .int .i64 f1, .int .i64 f2, .int .i64 f3, .int .i64 f4, .string f5] 39)) hB1)
  refine start_ (n := 18) (S := (fun W_ => Below w.heap.size w W_ ∧ W_.heap[w.heap.size]? = some (.cells #[.int .i64 7, .int .i64 f1, .int .i64 f2, .int .i64 f3, .int .i64 f4, .string f5] 39 (0, 0)))) (ds := []) (bm 18 0) (by kernel_rfl) rfl (by kernel_rfl) ⟨below_drew hC1, hX1⟩ (fun hHeld => ?_)
  refine pu_ 0 (some 18) (bm 18 1) ?_
  refine pu_ 1 (some 19) (bm 18 3) ?_
  refine ta_ 2 (some 20) (bm 18 7) hHeld (fun _ hSw => (blk_cell hSw.2 1).trans rfl) ?_
  refine pu_ 3 (some 21) (bm 18 15) ?_
  refine pu_ 5 (some 23) (bm 18 47) ?_
  refine pu_ 6 (some 24) (bm 18 111) ?_
  refine ta_ 7 (some 25) (bm 18 239) hHeld (fun _ hSw => (blk_cell hSw.2 2).trans rfl) ?_
  refine pu_ 8 (some 26) (bm 18 495) ?_
  refine pu_ 10 (some 28) (bm 18 1519) ?_
  refine pu_ 11 (some 29) (bm 18 3567) ?_
  refine ta_ 12 (some 30) (bm 18 7663) hHeld (fun _ hSw => (blk_cell hSw.2 3).trans rfl) ?_
  refine pu_ 13 (some 31) (bm 18 15855) ?_
  refine one_ (i := 4) (N := (some 22)) (bm 18 15871) rfl rfl (by kernel_rfl) (by decide) (fun K hK => ?_)
  refine goes_ Tryz.func30 (by kernel_rfl) rfl #[.pointer (some ⟨Wb, 0, none⟩), .int .i64 f1, .int .i64 ctx] (by rfl) rfl rfl (by try simp only [List.map_toArray, List.map_cons, List.map_nil]; first | done | rfl) ?_
  refine (hm1 _ hHeld.1).mono ?_
  rintro e w' ⟨rfl, hw⟩
  obtain rfl := hw.symm
  refine ⟨_, rfl, ?_⟩
  refine hK.out _ _ hHeld (fun hHeld => ?_)
  clear hK K
  refine norm_ (a' := ?_) ?_ ?_
  rotate_left
  · show Act.put _ (some 22) _ = _
    simp only [Act.put, List.setIfInBounds_toArray, List.set_cons_zero, List.set_cons_succ]
    rfl
  refine one_ (i := 9) (N := (some 27)) (bm 18 16383) rfl rfl (by kernel_rfl) (by decide) (fun K hK => ?_)
  refine goes_ Tryz.func30 (by kernel_rfl) rfl #[.pointer (some ⟨Wb, 0, none⟩), .int .i64 f2, .int .i64 ctx] (by rfl) rfl rfl (by try simp only [List.map_toArray, List.map_cons, List.map_nil]; first | done | rfl) ?_
  refine (hm2 _ hHeld.1).mono ?_
  rintro e w' ⟨rfl, hw⟩
  obtain rfl := hw.symm
  refine ⟨_, rfl, ?_⟩
  refine hK.out _ _ hHeld (fun hHeld => ?_)
  clear hK K
  refine norm_ (a' := ?_) ?_ ?_
  rotate_left
  · show Act.put _ (some 27) _ = _
    simp only [Act.put, List.setIfInBounds_toArray, List.set_cons_zero, List.set_cons_succ]
    rfl
  refine one_ (i := 14) (N := (some 32)) (bm 18 32767) rfl rfl (by kernel_rfl) (by decide) (fun K hK => ?_)
  refine goes_ Tryz.func30 (by kernel_rfl) rfl #[.pointer (some ⟨Wb, 0, none⟩), .int .i64 f3, .int .i64 ctx] (by rfl) rfl rfl (by try simp only [List.map_toArray, List.map_cons, List.map_nil]; first | done | rfl) ?_
  refine (hm3 _ hHeld.1).mono ?_
  rintro e w' ⟨rfl, hw⟩
  obtain rfl := hw.symm
  refine ⟨_, rfl, ?_⟩
  refine hK.out _ _ hHeld (fun hHeld => ?_)
  clear hK K
  refine norm_ (a' := ?_) ?_ ?_
  rotate_left
  · show Act.put _ (some 32) _ = _
    simp only [Act.put, List.setIfInBounds_toArray, List.set_cons_zero, List.set_cons_succ]
    rfl
  refine pu_ 15 (some 8) (bm 18 65535) ?_
  refine pu_ 16 (some 9) (bm 18 131071) ?_
  refine pu_ 17 (some 10) (bm 18 262143) ?_
  refine done_ (by kernel_rfl) ?_
  have hC5 := hHeld.1
  have hX2 := hHeld.2
  have z0 := (blk_cell (blk_below hWb hC5) 0).trans rfl
  have c0 := (blk_cell hX2 0).trans rfl
  have c1 := (blk_cell hX2 1).trans rfl
  have c2 := (blk_cell hX2 2).trans rfl
  have c3 := (blk_cell hX2 3).trans rfl
  have c4 := (blk_cell hX2 4).trans rfl
  have c5 := (blk_cell hX2 5).trans rfl
  go_wp2_with (go_at_call 23; (with_reducible refine (hnm _ hHeld.1).mono ?_); rintro e w' ⟨rfl, hw⟩; obtain rfl := hw.symm)
  refine start_ (n := 13) (S := (fun W_ => Below w.heap.size w W_ ∧ W_.heap[w.heap.size]? = some (.cells #[.int .i64 7, .int .i64 f1, .int .i64 f2, .int .i64 f3, .int .i64 f4, .string f5] 39 (0, 0)))) (ds := [8]) (bm 13 0) (by kernel_rfl) rfl (by kernel_rfl) ⟨below_then hHeld.1 hHeld.1.size (below_drew (Below.refl _ _)), hHeld.2⟩ (fun hHeld => ?_)
  refine pu_ 0 (some 107) (bm 13 1) ?_
  refine pu_ 1 (some 108) (bm 13 3) ?_
  refine pu_ 2 (some 109) (bm 13 7) ?_
  refine pu_ 3 (some 110) (bm 13 15) ?_
  refine ta_ 4 (some 111) (bm 13 31) hHeld (fun _ hSw => (blk_cell (blk_below hWb hSw.1) 0).trans rfl) ?_
  refine pu_ 5 (some 112) (bm 13 63) ?_
  refine pu_ 6 (some 113) (bm 13 127) ?_
  refine ta_ 7 (some 114) (bm 13 255) hHeld (fun _ hSw => (blk_cell hSw.2 2).trans rfl) ?_
  refine last_ (i := 8) (N := (some 115)) (bm 13 511) rfl rfl (by kernel_rfl) (by decide) (fun K hK => ?_)
  refine goes_ Tryz.func48 (by kernel_rfl) rfl #[.pointer (some ⟨F, 0, none⟩), .int .i64 a, .int .i64 f2] (by rfl) rfl rfl (by try simp only [List.map_toArray, List.map_cons, List.map_nil]; first | done | rfl) ?_
  have hC5 := hHeld.1
  refine (hop _ hC5).mono ?_
  rintro e w5 ⟨rfl, hwf, hF5, hS5⟩
  refine ⟨_, rfl, ?_⟩
  refine hK.out _ _ ?_
  clear hK K
  refine norm_ (a' := ?_) ?_ ?_
  rotate_left
  · show Act.put _ (some 115) _ = _
    simp only [Act.put, List.setIfInBounds_toArray, List.set_cons_zero, List.set_cons_succ]
    rfl
  refine pu_ 9 (some 116) (bm 13 1023) ?_
  refine pu_ 10 (some 117) (bm 13 2047) ?_
  refine pu_ 11 (some 6) (bm 13 4095) ?_
  refine pu_ 12 (some 7) (bm 13 8191) ?_
  refine done_ (by kernel_rfl) ?_
  go_wp2
  go_ret2
  exact WoC.yes (WoStep.same hC5) ((h.out.below hC5).setF hF5 hwf hS5) HF.out
end Go.Proofs.YtgopddjmmoohdaaGreatDoor
