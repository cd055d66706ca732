/- The texts of this seat, joined: part 20 of 25. -/
import Derived.Test.YtgopddjmmoohdaaGreatDoorSl01
import Derived.Test.YtgopddjmmoohdaaGreatDoorSl19
/- world: listen. -/
set_option linter.unusedSimpArgs false
set_option linter.unusedVariables false
set_option maxRecDepth 100000
set_option maxHeartbeats 3200000
namespace Go.Proofs.YtgopddjmmoohdaaGreatDoor
open Go.RowKit Go.Proofs.YtgopddjmmoohdaaGreatDoorW.PrintWords Go.Proofs.YtgopddjmmoohdaaGreatDoorW.PrintLast Go.Proofs.YtgopddjmmoohdaaGreatDoor.PPlaySilent

/-- Is a signal given? -/
def givenG (g : List Sg) (id : Int) : Bool := (sgF g id).any (·.shut)
/-- A tag is added. -/
def addG (g : List Sg) (id tag : Int) : List Sg := match sgF g id with
  | none => g
  | some s => if s.shut = true then g else g.set (id - 1).toNat { s with tags := s.tags ++ [tag] }
theorem addF_abs (l : List SigS) (id tag : Int) : (addF l id tag).map SigS.abs = addG (l.map SigS.abs) id tag := by
  unfold addF addG
  rw [sgF_abs]
  cases sigF l id with
  | none => rfl
  | some s =>
    simp only [Option.map_some]
    show _ = if s.shut = true then _ else _
    split
    · rfl
    · rw [List.map_set]; rfl
/-- What listen refuses. -/
def badL (calls : Nat) (st : St) (node : Int) (x : S39) : Bool := !isN st.l node || (decide (x.f2 < 1) || (decide ((calls : Int) < x.f2) || (!bitsB x.f3 || (decide (x.f4 < 0) || (decide ((st.sg.length : Int) < x.f4) || !rightW x.f5.data.toList)))))
def lsnX (x : S39) : S96 := ⟨0, x.f5, x.f2, hasB x.f3 1, hasB x.f3 2, hasB x.f3 4, x.f4, false⟩
/-- listen. -/
def listenW (calls : Nat) (st : St) (node : Int) (x : S39) : St × Int × Int := if badL calls st node x = true then (st, 0, 1) else if givenG st.sg x.f4 = true then (st, 0, 0) else if (addR st.ls node (lsnX x)).2.1 = 0 then ({ st with ls := (addR st.ls node (lsnX x)).1 }, (addR st.ls node (lsnX x)).2.1, (addR st.ls node (lsnX x)).2.2) else ({ st with ls := (addR st.ls node (lsnX x)).1, sg := addG st.sg x.f4 (addR st.ls node (lsnX x)).2.1 }, (addR st.ls node (lsnX x)).2.1, (addR st.ls node (lsnX x)).2.2)
set_option maxHeartbeats 12800000 in
theorem listen_any {cl : Nat → Nat} {w0 w : World} {Wb F L B calls : Nat} {st : St} (h : WoC cl w0 w Wb F L B calls st) (hT : SgOk st.sg) (node : Int) (x : S39) :
    Calls Tryz.prog 53 #[.pointer (some ⟨Wb, 0, none⟩), .int .i64 node, opV x] w (WoPost cl w0 w Wb F L B calls (listenW calls st node x)) := by
  obtain ⟨f0, f1, f2, f3, f4, f5⟩ := x
  have hb := fun X => below_alloc (Below.refl w.heap.size w) X
  obtain ⟨v, hWb⟩ := h.wb
  obtain ⟨own, sl, hB, hsl, hown⟩ := h.bo
  obtain ⟨ownl, psl, hL, hownl⟩ := h.li
  have hth := fun W (hB : Below w.heap.size w W) => wthere_any (h.below hB) node
  have hbi := fun W => bits_any f3 W
  have hri := fun W => right_any f5 W
  have hbl : ∀ W, Below w.heap.size w W → Calls Tryz.prog 80 #[.pointer (some ⟨B, 0, none⟩)] W (fun e w' => e = .returned (.int .i64 (st.sg.length : Int)) ∧ w' = W) := fun W hW => by
    have := blen_any own w0 W B sl (hB.below hW)
    rwa [show sl.length = st.sg.length by rw [← hsl, List.length_map]] at this
  have hgi : ∀ W, Below w.heap.size w W → Calls Tryz.prog 77 #[.pointer (some ⟨B, 0, none⟩), .int .i64 f4] W (fun e w' => e = .returned (.bool (givenG st.sg f4)) ∧ w' = W) := fun W hW => by
    have := given_any own w0 W B f4 sl (hB.below hW)
    rwa [givenF_abs, hsl] at this
  have hadd : ∀ W, Below w.heap.size w W → Calls Tryz.prog 85 #[.pointer (some ⟨L, 0, none⟩), .int .i64 node, .agg #[.int .i64 0, .string f5, .int .i64 f2, .bool (hasB f3 1), .bool (hasB f3 2), .bool (hasB f3 4), .int .i64 f4, .bool false]] W (AddPost ownl w0 W L (addR st.ls node (lsnX ⟨f0, f1, f2, f3, f4, f5⟩))) := fun W hW => add_any ownl w0 W L psl st.ls node (lsnX ⟨f0, f1, f2, f3, f4, f5⟩) (hL.below hW)
  have HM := hd_ (show listenW calls st node ⟨f0, f1, f2, f3, f4, f5⟩ = if badL calls st node ⟨f0, f1, f2, f3, f4, f5⟩ = true then (st, 0, 1) else if givenG st.sg f4 = true then (st, 0, 0) else if (addR st.ls node (lsnX ⟨f0, f1, f2, f3, f4, f5⟩)).2.1 = 0 then ({ st with ls := (addR st.ls node (lsnX ⟨f0, f1, f2, f3, f4, f5⟩)).1 }, (addR st.ls node (lsnX ⟨f0, f1, f2, f3, f4, f5⟩)).2.1, (addR st.ls node (lsnX ⟨f0, f1, f2, f3, f4, f5⟩)).2.2) else ({ st with ls := (addR st.ls node (lsnX ⟨f0, f1, f2, f3, f4, f5⟩)).1, sg := addG st.sg f4 (addR st.ls node (lsnX ⟨f0, f1, f2, f3, f4, f5⟩)).2.1 }, (addR st.ls node (lsnX ⟨f0, f1, f2, f3, f4, f5⟩)).2.1, (addR st.ls node (lsnX ⟨f0, f1, f2, f3, f4, f5⟩)).2.2) from rfl)
  simp only [opV]
  generalize listenW calls st node ⟨f0, f1, f2, f3, f4, f5⟩ = lr at *
  cases n1 : isN st.l node with
  | false =>
    rw [n1] at hth
    have HF := hd_ (HM.out.trans (if_pos (by simp only [badL]; simp [n1])))
    have hno := hd_ (fun W hB => h.no (W := W) HF.out hB)
    clear HM h hB hgi hadd hownl hL hT hown hsl
    go_enter Tryz.func53, Tryz.ntmps53
    go_wp2
    refine start_ (n := 47) (S := (fun W_ => Below w.heap.size w W_ ∧ W_.heap[w.heap.size]? = some (.cells #[.int .i64 f0, .int .i64 f1, .int .i64 f2, .int .i64 f3, .int .i64 f4, .string f5] 39 (0, 0)))) (ds := []) (bm 47 0) (by kernel_rfl) rfl (by kernel_rfl) ⟨below_drew (hb _), blk_new w _⟩ (fun hHeld => ?_)
    refine pu_ 0 (some 11) (bm 47 1) ?_
    refine pu_ 1 (some 12) (bm 47 3) ?_
    refine one_ (i := 2) (N := (some 13)) (bm 47 7) rfl rfl (by kernel_rfl) (by decide) (fun K hK => ?_)
    refine goes_ Tryz.func83 (by kernel_rfl) rfl #[.pointer (some ⟨Wb, 0, none⟩), .int .i64 node] (by rfl) rfl rfl (by try simp only [List.map_toArray, List.map_cons, List.map_nil]; first | done | rfl) ?_
    refine (hth _ hHeld.1).mono ?_
    rintro e w1 ⟨rfl, hB1⟩
    refine ⟨_, rfl, ?_⟩
    refine hK.out _ _ ⟨below_then hHeld.1 hHeld.1.size hB1, blk_below hHeld.2 hB1⟩ (fun hHeld => ?_)
    clear hK K
    refine norm_ (a' := ?_) ?_ ?_
    rotate_left
    · show Act.put _ (some 13) _ = _
      simp only [Act.put, List.setIfInBounds_toArray, List.set_cons_zero, List.set_cons_succ]
      rfl
    refine pu_ 3 (some 14) (bm 47 15) ?_
    refine pu_ 4 (some 15) (bm 47 31) ?_
    refine st_ 5 (some 16) (bm 47 63) ?_
    refine st_ 6 (some 17) (bm 47 127) ?_
    refine st_ 7 (some 18) (bm 47 255) ?_
    refine pu_ 8 (some 19) (bm 47 511) ?_
    refine pu_ 9 (some 20) (bm 47 1023) ?_
    refine st_ 10 (some 21) (bm 47 2047) ?_
    refine st_ 11 (some 22) (bm 47 4095) ?_
    refine st_ 12 (some 23) (bm 47 8191) ?_
    refine st_ 13 (some 24) (bm 47 16383) ?_
    refine st_ 14 (some 25) (bm 47 32767) ?_
    refine st_ 15 (some 26) (bm 47 65535) ?_
    refine st_ 16 (some 27) (bm 47 131071) ?_
    refine pu_ 17 (some 28) (bm 47 262143) ?_
    refine pu_ 18 (some 29) (bm 47 524287) ?_
    refine st_ 19 (some 30) (bm 47 1048575) ?_
    refine st_ 20 (some 31) (bm 47 2097151) ?_
    refine st_ 21 (some 32) (bm 47 4194303) ?_
    refine st_ 22 (some 33) (bm 47 8388607) ?_
    refine pu_ 23 (some 34) (bm 47 16777215) ?_
    refine pu_ 24 (some 35) (bm 47 33554431) ?_
    refine st_ 25 (some 36) (bm 47 67108863) ?_
    refine st_ 26 (some 37) (bm 47 134217727) ?_
    refine st_ 27 (some 38) (bm 47 268435455) ?_
    refine pu_ 28 (some 39) (bm 47 536870911) ?_
    refine pu_ 29 (some 40) (bm 47 1073741823) ?_
    refine st_ 30 (some 41) (bm 47 2147483647) ?_
    refine st_ 31 (some 42) (bm 47 4294967295) ?_
    refine st_ 32 (some 43) (bm 47 8589934591) ?_
    refine st_ 33 (some 44) (bm 47 17179869183) ?_
    refine st_ 34 (some 45) (bm 47 34359738367) ?_
    refine st_ 35 (some 46) (bm 47 68719476735) ?_
    refine st_ 36 (some 47) (bm 47 137438953471) ?_
    refine st_ 37 (some 48) (bm 47 274877906943) ?_
    refine st_ 38 (some 49) (bm 47 549755813887) ?_
    refine pu_ 39 (some 50) (bm 47 1099511627775) ?_
    refine pu_ 40 (some 51) (bm 47 2199023255551) ?_
    refine st_ 41 (some 52) (bm 47 4398046511103) ?_
    refine st_ 42 (some 53) (bm 47 8796093022207) ?_
    refine st_ 43 (some 54) (bm 47 17592186044415) ?_
    refine st_ 44 (some 55) (bm 47 35184372088831) ?_
    refine pu_ 45 (some 56) (bm 47 70368744177663) ?_
    refine pu_ 46 (some 10) (bm 47 140737488355327) ?_
    refine done_ (by kernel_rfl) ?_
    go_wp2
    go_ret2
    exact hno.out _ hHeld.1
  | true =>
    rw [n1] at hth
    by_cases k2 : f2 < 1
    · have p2 : decide (f2 < 1) = true := decide_eq_true k2
      have HF := hd_ (HM.out.trans (if_pos (by simp only [badL]; simp [n1, k2])))
      have hno := hd_ (fun W hB => h.no (W := W) HF.out hB)
      clear HM h hB hgi hadd hownl hL hT hown hsl
      go_enter Tryz.func53, Tryz.ntmps53
      go_wp2
      refine start_ (n := 47) (S := (fun W_ => Below w.heap.size w W_ ∧ W_.heap[w.heap.size]? = some (.cells #[.int .i64 f0, .int .i64 f1, .int .i64 f2, .int .i64 f3, .int .i64 f4, .string f5] 39 (0, 0)))) (ds := []) (bm 47 0) (by kernel_rfl) rfl (by kernel_rfl) ⟨below_drew (hb _), blk_new w _⟩ (fun hHeld => ?_)
      refine pu_ 0 (some 11) (bm 47 1) ?_
      refine pu_ 1 (some 12) (bm 47 3) ?_
      refine one_ (i := 2) (N := (some 13)) (bm 47 7) rfl rfl (by kernel_rfl) (by decide) (fun K hK => ?_)
      refine goes_ Tryz.func83 (by kernel_rfl) rfl #[.pointer (some ⟨Wb, 0, none⟩), .int .i64 node] (by rfl) rfl rfl (by try simp only [List.map_toArray, List.map_cons, List.map_nil]; first | done | rfl) ?_
      refine (hth _ hHeld.1).mono ?_
      rintro e w1 ⟨rfl, hB1⟩
      refine ⟨_, rfl, ?_⟩
      refine hK.out _ _ ⟨below_then hHeld.1 hHeld.1.size hB1, blk_below hHeld.2 hB1⟩ (fun hHeld => ?_)
      clear hK K
      refine norm_ (a' := ?_) ?_ ?_
      rotate_left
      · show Act.put _ (some 13) _ = _
        simp only [Act.put, List.setIfInBounds_toArray, List.set_cons_zero, List.set_cons_succ]
        rfl
      refine pu_ 3 (some 14) (bm 47 15) ?_
      refine pu_ 4 (some 15) (bm 47 31) ?_
      refine pu_ 5 (some 16) (bm 47 63) ?_
      refine ta_ 6 (some 17) (bm 47 127) hHeld (fun _ hSw => (blk_cell hSw.2 2).trans rfl) ?_
      refine pu_ 7 (some 18) (bm 47 255) ?_ (hy := by intro w'; go_simp; (try simp only [p2]); with_reducible rfl)
      refine pu_ 8 (some 19) (bm 47 511) ?_
      refine pu_ 9 (some 20) (bm 47 1023) ?_
      refine st_ 10 (some 21) (bm 47 2047) ?_
      refine st_ 11 (some 22) (bm 47 4095) ?_
      refine st_ 12 (some 23) (bm 47 8191) ?_
      refine st_ 13 (some 24) (bm 47 16383) ?_
      refine st_ 14 (some 25) (bm 47 32767) ?_
      refine st_ 15 (some 26) (bm 47 65535) ?_
      refine st_ 16 (some 27) (bm 47 131071) ?_
      refine pu_ 17 (some 28) (bm 47 262143) ?_
      refine pu_ 18 (some 29) (bm 47 524287) ?_
      refine st_ 19 (some 30) (bm 47 1048575) ?_
      refine st_ 20 (some 31) (bm 47 2097151) ?_
      refine st_ 21 (some 32) (bm 47 4194303) ?_
      refine st_ 22 (some 33) (bm 47 8388607) ?_
      refine pu_ 23 (some 34) (bm 47 16777215) ?_
      refine pu_ 24 (some 35) (bm 47 33554431) ?_
      refine st_ 25 (some 36) (bm 47 67108863) ?_
      refine st_ 26 (some 37) (bm 47 134217727) ?_
      refine st_ 27 (some 38) (bm 47 268435455) ?_
      refine pu_ 28 (some 39) (bm 47 536870911) ?_
      refine pu_ 29 (some 40) (bm 47 1073741823) ?_
      refine st_ 30 (some 41) (bm 47 2147483647) ?_
      refine st_ 31 (some 42) (bm 47 4294967295) ?_
      refine st_ 32 (some 43) (bm 47 8589934591) ?_
      refine st_ 33 (some 44) (bm 47 17179869183) ?_
      refine st_ 34 (some 45) (bm 47 34359738367) ?_
      refine st_ 35 (some 46) (bm 47 68719476735) ?_
      refine st_ 36 (some 47) (bm 47 137438953471) ?_
      refine st_ 37 (some 48) (bm 47 274877906943) ?_
      refine st_ 38 (some 49) (bm 47 549755813887) ?_
      refine pu_ 39 (some 50) (bm 47 1099511627775) ?_
      refine pu_ 40 (some 51) (bm 47 2199023255551) ?_
      refine st_ 41 (some 52) (bm 47 4398046511103) ?_
      refine st_ 42 (some 53) (bm 47 8796093022207) ?_
      refine st_ 43 (some 54) (bm 47 17592186044415) ?_
      refine st_ 44 (some 55) (bm 47 35184372088831) ?_
      refine pu_ 45 (some 56) (bm 47 70368744177663) ?_
      refine pu_ 46 (some 10) (bm 47 140737488355327) ?_
      refine done_ (by kernel_rfl) ?_
      go_wp2
      go_ret2
      exact hno.out _ hHeld.1
    · have p2 : decide (f2 < 1) = false := decide_eq_false k2
      by_cases k3 : (calls : Int) < f2
      · have p3 : decide ((calls : Int) < f2) = true := decide_eq_true k3
        have HF := hd_ (HM.out.trans (if_pos (by simp only [badL]; simp [n1, k2, k3])))
        have hno := hd_ (fun W hB => h.no (W := W) HF.out hB)
        clear HM h hB hgi hadd hownl hL hT hown hsl
        go_enter Tryz.func53, Tryz.ntmps53
        go_wp2
        refine start_ (n := 47) (S := (fun W_ => Below w.heap.size w W_ ∧ W_.heap[w.heap.size]? = some (.cells #[.int .i64 f0, .int .i64 f1, .int .i64 f2, .int .i64 f3, .int .i64 f4, .string f5] 39 (0, 0)))) (ds := []) (bm 47 0) (by kernel_rfl) rfl (by kernel_rfl) ⟨below_drew (hb _), blk_new w _⟩ (fun hHeld => ?_)
        refine pu_ 0 (some 11) (bm 47 1) ?_
        refine pu_ 1 (some 12) (bm 47 3) ?_
        refine one_ (i := 2) (N := (some 13)) (bm 47 7) rfl rfl (by kernel_rfl) (by decide) (fun K hK => ?_)
        refine goes_ Tryz.func83 (by kernel_rfl) rfl #[.pointer (some ⟨Wb, 0, none⟩), .int .i64 node] (by rfl) rfl rfl (by try simp only [List.map_toArray, List.map_cons, List.map_nil]; first | done | rfl) ?_
        refine (hth _ hHeld.1).mono ?_
        rintro e w1 ⟨rfl, hB1⟩
        refine ⟨_, rfl, ?_⟩
        refine hK.out _ _ ⟨below_then hHeld.1 hHeld.1.size hB1, blk_below hHeld.2 hB1⟩ (fun hHeld => ?_)
        clear hK K
        refine norm_ (a' := ?_) ?_ ?_
        rotate_left
        · show Act.put _ (some 13) _ = _
          simp only [Act.put, List.setIfInBounds_toArray, List.set_cons_zero, List.set_cons_succ]
          rfl
        refine pu_ 3 (some 14) (bm 47 15) ?_
        refine pu_ 4 (some 15) (bm 47 31) ?_
        refine pu_ 5 (some 16) (bm 47 63) ?_
        refine ta_ 6 (some 17) (bm 47 127) hHeld (fun _ hSw => (blk_cell hSw.2 2).trans rfl) ?_
        refine pu_ 7 (some 18) (bm 47 255) ?_ (hy := by intro w'; go_simp; (try simp only [p2]); with_reducible rfl)
        refine pu_ 8 (some 19) (bm 47 511) ?_
        refine pu_ 9 (some 20) (bm 47 1023) ?_
        refine pu_ 10 (some 21) (bm 47 2047) ?_
        refine ta_ 11 (some 22) (bm 47 4095) hHeld (fun _ hSw => (blk_cell hSw.2 2).trans rfl) ?_
        refine pu_ 12 (some 23) (bm 47 8191) ?_
        refine pu_ 13 (some 24) (bm 47 16383) ?_
        refine pu_ 14 (some 25) (bm 47 32767) ?_
        refine ta_ 15 (some 26) (bm 47 65535) hHeld (fun _ hSw => (blk_cell (blk_below hWb hSw.1) 3).trans rfl) ?_
        refine pu_ 16 (some 27) (bm 47 131071) ?_ (hy := by intro w'; go_simp; (try simp only [p3]); with_reducible rfl)
        refine pu_ 17 (some 28) (bm 47 262143) ?_
        refine pu_ 18 (some 29) (bm 47 524287) ?_
        refine st_ 19 (some 30) (bm 47 1048575) ?_
        refine st_ 20 (some 31) (bm 47 2097151) ?_
        refine st_ 21 (some 32) (bm 47 4194303) ?_
        refine st_ 22 (some 33) (bm 47 8388607) ?_
        refine pu_ 23 (some 34) (bm 47 16777215) ?_
        refine pu_ 24 (some 35) (bm 47 33554431) ?_
        refine st_ 25 (some 36) (bm 47 67108863) ?_
        refine st_ 26 (some 37) (bm 47 134217727) ?_
        refine st_ 27 (some 38) (bm 47 268435455) ?_
        refine pu_ 28 (some 39) (bm 47 536870911) ?_
        refine pu_ 29 (some 40) (bm 47 1073741823) ?_
        refine st_ 30 (some 41) (bm 47 2147483647) ?_
        refine st_ 31 (some 42) (bm 47 4294967295) ?_
        refine st_ 32 (some 43) (bm 47 8589934591) ?_
        refine st_ 33 (some 44) (bm 47 17179869183) ?_
        refine st_ 34 (some 45) (bm 47 34359738367) ?_
        refine st_ 35 (some 46) (bm 47 68719476735) ?_
        refine st_ 36 (some 47) (bm 47 137438953471) ?_
        refine st_ 37 (some 48) (bm 47 274877906943) ?_
        refine st_ 38 (some 49) (bm 47 549755813887) ?_
        refine pu_ 39 (some 50) (bm 47 1099511627775) ?_
        refine pu_ 40 (some 51) (bm 47 2199023255551) ?_
        refine st_ 41 (some 52) (bm 47 4398046511103) ?_
        refine st_ 42 (some 53) (bm 47 8796093022207) ?_
        refine st_ 43 (some 54) (bm 47 17592186044415) ?_
        refine st_ 44 (some 55) (bm 47 35184372088831) ?_
        refine pu_ 45 (some 56) (bm 47 70368744177663) ?_
        refine pu_ 46 (some 10) (bm 47 140737488355327) ?_
        refine done_ (by kernel_rfl) ?_
        go_wp2
        go_ret2
        exact hno.out _ hHeld.1
      · have p3 : decide ((calls : Int) < f2) = false := decide_eq_false k3
        cases n4 : bitsB f3 with
        | false =>
          rw [n4] at hbi
          have HF := hd_ (HM.out.trans (if_pos (by simp only [badL]; simp [n1, k2, k3, n4])))
          have hno := hd_ (fun W hB => h.no (W := W) HF.out hB)
          clear HM h hB hgi hadd hownl hL hT hown hsl
          go_enter Tryz.func53, Tryz.ntmps53
          go_wp2
          refine start_ (n := 47) (S := (fun W_ => Below w.heap.size w W_ ∧ W_.heap[w.heap.size]? = some (.cells #[.int .i64 f0, .int .i64 f1, .int .i64 f2, .int .i64 f3, .int .i64 f4, .string f5] 39 (0, 0)))) (ds := []) (bm 47 0) (by kernel_rfl) rfl (by kernel_rfl) ⟨below_drew (hb _), blk_new w _⟩ (fun hHeld => ?_)
          refine pu_ 0 (some 11) (bm 47 1) ?_
          refine pu_ 1 (some 12) (bm 47 3) ?_
          refine one_ (i := 2) (N := (some 13)) (bm 47 7) rfl rfl (by kernel_rfl) (by decide) (fun K hK => ?_)
          refine goes_ Tryz.func83 (by kernel_rfl) rfl #[.pointer (some ⟨Wb, 0, none⟩), .int .i64 node] (by rfl) rfl rfl (by try simp only [List.map_toArray, List.map_cons, List.map_nil]; first | done | rfl) ?_
          refine (hth _ hHeld.1).mono ?_
          rintro e w1 ⟨rfl, hB1⟩
          refine ⟨_, rfl, ?_⟩
          refine hK.out _ _ ⟨below_then hHeld.1 hHeld.1.size hB1, blk_below hHeld.2 hB1⟩ (fun hHeld => ?_)
          clear hK K
          refine norm_ (a' := ?_) ?_ ?_
          rotate_left
          · show Act.put _ (some 13) _ = _
            simp only [Act.put, List.setIfInBounds_toArray, List.set_cons_zero, List.set_cons_succ]
            rfl
          refine pu_ 3 (some 14) (bm 47 15) ?_
          refine pu_ 4 (some 15) (bm 47 31) ?_
          refine pu_ 5 (some 16) (bm 47 63) ?_
          refine ta_ 6 (some 17) (bm 47 127) hHeld (fun _ hSw => (blk_cell hSw.2 2).trans rfl) ?_
          refine pu_ 7 (some 18) (bm 47 255) ?_ (hy := by intro w'; go_simp; (try simp only [p2]); with_reducible rfl)
          refine pu_ 8 (some 19) (bm 47 511) ?_
          refine pu_ 9 (some 20) (bm 47 1023) ?_
          refine pu_ 10 (some 21) (bm 47 2047) ?_
          refine ta_ 11 (some 22) (bm 47 4095) hHeld (fun _ hSw => (blk_cell hSw.2 2).trans rfl) ?_
          refine pu_ 12 (some 23) (bm 47 8191) ?_
          refine pu_ 13 (some 24) (bm 47 16383) ?_
          refine pu_ 14 (some 25) (bm 47 32767) ?_
          refine ta_ 15 (some 26) (bm 47 65535) hHeld (fun _ hSw => (blk_cell (blk_below hWb hSw.1) 3).trans rfl) ?_
          refine pu_ 16 (some 27) (bm 47 131071) ?_ (hy := by intro w'; go_simp; (try simp only [p3]); with_reducible rfl)
          refine pu_ 17 (some 28) (bm 47 262143) ?_
          refine pu_ 18 (some 29) (bm 47 524287) ?_
          refine pu_ 19 (some 30) (bm 47 1048575) ?_
          refine ta_ 20 (some 31) (bm 47 2097151) hHeld (fun _ hSw => (blk_cell hSw.2 3).trans rfl) ?_
          refine one_ (i := 21) (N := (some 32)) (bm 47 4194303) rfl rfl (by kernel_rfl) (by decide) (fun K hK => ?_)
          refine goes_ Tryz.func84 (by kernel_rfl) rfl #[.int .i64 f3] (by rfl) rfl rfl (by try simp only [List.map_toArray, List.map_cons, List.map_nil]; first | done | rfl) ?_
          refine (hbi _).mono ?_
          rintro e w' ⟨rfl, hw⟩
          obtain rfl := hw.symm
          refine ⟨_, rfl, ?_⟩
          refine hK.out _ _ hHeld (fun hHeld => ?_)
          clear hK K
          refine norm_ (a' := ?_) ?_ ?_
          rotate_left
          · show Act.put _ (some 32) _ = _
            simp only [Act.put, List.setIfInBounds_toArray, List.set_cons_zero, List.set_cons_succ]
            rfl
          refine pu_ 22 (some 33) (bm 47 8388607) ?_
          refine pu_ 23 (some 34) (bm 47 16777215) ?_
          refine pu_ 24 (some 35) (bm 47 33554431) ?_
          refine st_ 25 (some 36) (bm 47 67108863) ?_
          refine st_ 26 (some 37) (bm 47 134217727) ?_
          refine st_ 27 (some 38) (bm 47 268435455) ?_
          refine pu_ 28 (some 39) (bm 47 536870911) ?_
          refine pu_ 29 (some 40) (bm 47 1073741823) ?_
          refine st_ 30 (some 41) (bm 47 2147483647) ?_
          refine st_ 31 (some 42) (bm 47 4294967295) ?_
          refine st_ 32 (some 43) (bm 47 8589934591) ?_
          refine st_ 33 (some 44) (bm 47 17179869183) ?_
          refine st_ 34 (some 45) (bm 47 34359738367) ?_
          refine st_ 35 (some 46) (bm 47 68719476735) ?_
          refine st_ 36 (some 47) (bm 47 137438953471) ?_
          refine st_ 37 (some 48) (bm 47 274877906943) ?_
          refine st_ 38 (some 49) (bm 47 549755813887) ?_
          refine pu_ 39 (some 50) (bm 47 1099511627775) ?_
          refine pu_ 40 (some 51) (bm 47 2199023255551) ?_
          refine st_ 41 (some 52) (bm 47 4398046511103) ?_
          refine st_ 42 (some 53) (bm 47 8796093022207) ?_
          refine st_ 43 (some 54) (bm 47 17592186044415) ?_
          refine st_ 44 (some 55) (bm 47 35184372088831) ?_
          refine pu_ 45 (some 56) (bm 47 70368744177663) ?_
          refine pu_ 46 (some 10) (bm 47 140737488355327) ?_
          refine done_ (by kernel_rfl) ?_
          go_wp2
          go_ret2
          exact hno.out _ hHeld.1
        | true =>
          rw [n4] at hbi
          by_cases k5 : f4 < 0
          · have p5 : decide (f4 < 0) = true := decide_eq_true k5
            have HF := hd_ (HM.out.trans (if_pos (by simp only [badL]; simp [n1, k2, k3, n4, k5])))
            have hno := hd_ (fun W hB => h.no (W := W) HF.out hB)
            clear HM h hB hgi hadd hownl hL hT hown hsl
            go_enter Tryz.func53, Tryz.ntmps53
            go_wp2
            refine start_ (n := 47) (S := (fun W_ => Below w.heap.size w W_ ∧ W_.heap[w.heap.size]? = some (.cells #[.int .i64 f0, .int .i64 f1, .int .i64 f2, .int .i64 f3, .int .i64 f4, .string f5] 39 (0, 0)))) (ds := []) (bm 47 0) (by kernel_rfl) rfl (by kernel_rfl) ⟨below_drew (hb _), blk_new w _⟩ (fun hHeld => ?_)
            refine pu_ 0 (some 11) (bm 47 1) ?_
            refine pu_ 1 (some 12) (bm 47 3) ?_
            refine one_ (i := 2) (N := (some 13)) (bm 47 7) rfl rfl (by kernel_rfl) (by decide) (fun K hK => ?_)
            refine goes_ Tryz.func83 (by kernel_rfl) rfl #[.pointer (some ⟨Wb, 0, none⟩), .int .i64 node] (by rfl) rfl rfl (by try simp only [List.map_toArray, List.map_cons, List.map_nil]; first | done | rfl) ?_
            refine (hth _ hHeld.1).mono ?_
            rintro e w1 ⟨rfl, hB1⟩
            refine ⟨_, rfl, ?_⟩
            refine hK.out _ _ ⟨below_then hHeld.1 hHeld.1.size hB1, blk_below hHeld.2 hB1⟩ (fun hHeld => ?_)
            clear hK K
            refine norm_ (a' := ?_) ?_ ?_
            rotate_left
            · show Act.put _ (some 13) _ = _
              simp only [Act.put, List.setIfInBounds_toArray, List.set_cons_zero, List.set_cons_succ]
              rfl
            refine pu_ 3 (some 14) (bm 47 15) ?_
            refine pu_ 4 (some 15) (bm 47 31) ?_
            refine pu_ 5 (some 16) (bm 47 63) ?_
            refine ta_ 6 (some 17) (bm 47 127) hHeld (fun _ hSw => (blk_cell hSw.2 2).trans rfl) ?_
            refine pu_ 7 (some 18) (bm 47 255) ?_ (hy := by intro w'; go_simp; (try simp only [p2]); with_reducible rfl)
            refine pu_ 8 (some 19) (bm 47 511) ?_
            refine pu_ 9 (some 20) (bm 47 1023) ?_
            refine pu_ 10 (some 21) (bm 47 2047) ?_
            refine ta_ 11 (some 22) (bm 47 4095) hHeld (fun _ hSw => (blk_cell hSw.2 2).trans rfl) ?_
            refine pu_ 12 (some 23) (bm 47 8191) ?_
            refine pu_ 13 (some 24) (bm 47 16383) ?_
            refine pu_ 14 (some 25) (bm 47 32767) ?_
            refine ta_ 15 (some 26) (bm 47 65535) hHeld (fun _ hSw => (blk_cell (blk_below hWb hSw.1) 3).trans rfl) ?_
            refine pu_ 16 (some 27) (bm 47 131071) ?_ (hy := by intro w'; go_simp; (try simp only [p3]); with_reducible rfl)
            refine pu_ 17 (some 28) (bm 47 262143) ?_
            refine pu_ 18 (some 29) (bm 47 524287) ?_
            refine pu_ 19 (some 30) (bm 47 1048575) ?_
            refine ta_ 20 (some 31) (bm 47 2097151) hHeld (fun _ hSw => (blk_cell hSw.2 3).trans rfl) ?_
            refine one_ (i := 21) (N := (some 32)) (bm 47 4194303) rfl rfl (by kernel_rfl) (by decide) (fun K hK => ?_)
            refine goes_ Tryz.func84 (by kernel_rfl) rfl #[.int .i64 f3] (by rfl) rfl rfl (by try simp only [List.map_toArray, List.map_cons, List.map_nil]; first | done | rfl) ?_
            refine (hbi _).mono ?_
            rintro e w' ⟨rfl, hw⟩
            obtain rfl := hw.symm
            refine ⟨_, rfl, ?_⟩
            refine hK.out _ _ hHeld (fun hHeld => ?_)
            clear hK K
            refine norm_ (a' := ?_) ?_ ?_
            rotate_left
            · show Act.put _ (some 32) _ = _
              simp only [Act.put, List.setIfInBounds_toArray, List.set_cons_zero, List.set_cons_succ]
              rfl
            refine pu_ 22 (some 33) (bm 47 8388607) ?_
            refine pu_ 23 (some 34) (bm 47 16777215) ?_
            refine pu_ 24 (some 35) (bm 47 33554431) ?_
            refine pu_ 25 (some 36) (bm 47 67108863) ?_
            refine ta_ 26 (some 37) (bm 47 134217727) hHeld (fun _ hSw => (blk_cell hSw.2 4).trans rfl) ?_
            refine pu_ 27 (some 38) (bm 47 268435455) ?_ (hy := by intro w'; go_simp; (try simp only [p5]); with_reducible rfl)
            refine pu_ 28 (some 39) (bm 47 536870911) ?_
            refine pu_ 29 (some 40) (bm 47 1073741823) ?_
            refine st_ 30 (some 41) (bm 47 2147483647) ?_
            refine st_ 31 (some 42) (bm 47 4294967295) ?_
            refine st_ 32 (some 43) (bm 47 8589934591) ?_
            refine st_ 33 (some 44) (bm 47 17179869183) ?_
            refine st_ 34 (some 45) (bm 47 34359738367) ?_
            refine st_ 35 (some 46) (bm 47 68719476735) ?_
            refine st_ 36 (some 47) (bm 47 137438953471) ?_
            refine st_ 37 (some 48) (bm 47 274877906943) ?_
            refine st_ 38 (some 49) (bm 47 549755813887) ?_
            refine pu_ 39 (some 50) (bm 47 1099511627775) ?_
            refine pu_ 40 (some 51) (bm 47 2199023255551) ?_
            refine st_ 41 (some 52) (bm 47 4398046511103) ?_
            refine st_ 42 (some 53) (bm 47 8796093022207) ?_
            refine st_ 43 (some 54) (bm 47 17592186044415) ?_
            refine st_ 44 (some 55) (bm 47 35184372088831) ?_
            refine pu_ 45 (some 56) (bm 47 70368744177663) ?_
            refine pu_ 46 (some 10) (bm 47 140737488355327) ?_
            refine done_ (by kernel_rfl) ?_
            go_wp2
            go_ret2
            exact hno.out _ hHeld.1
          · have p5 : decide (f4 < 0) = false := decide_eq_false k5
            by_cases k6 : (st.sg.length : Int) < f4
            · have p6 : decide ((st.sg.length : Int) < f4) = true := decide_eq_true k6
              have HF := hd_ (HM.out.trans (if_pos (by simp only [badL]; simp [n1, k2, k3, n4, k5, k6])))
              have hno := hd_ (fun W hB => h.no (W := W) HF.out hB)
              clear HM h hB hgi hadd hownl hL hT hown hsl
              go_enter Tryz.func53, Tryz.ntmps53
              go_wp2
              refine start_ (n := 47) (S := (fun W_ => Below w.heap.size w W_ ∧ W_.heap[w.heap.size]? = some (.cells #[.int .i64 f0, .int .i64 f1, .int .i64 f2, .int .i64 f3, .int .i64 f4, .string f5] 39 (0, 0)))) (ds := []) (bm 47 0) (by kernel_rfl) rfl (by kernel_rfl) ⟨below_drew (hb _), blk_new w _⟩ (fun hHeld => ?_)
              refine pu_ 0 (some 11) (bm 47 1) ?_
              refine pu_ 1 (some 12) (bm 47 3) ?_
              refine one_ (i := 2) (N := (some 13)) (bm 47 7) rfl rfl (by kernel_rfl) (by decide) (fun K hK => ?_)
              refine goes_ Tryz.func83 (by kernel_rfl) rfl #[.pointer (some ⟨Wb, 0, none⟩), .int .i64 node] (by rfl) rfl rfl (by try simp only [List.map_toArray, List.map_cons, List.map_nil]; first | done | rfl) ?_
              refine (hth _ hHeld.1).mono ?_
              rintro e w1 ⟨rfl, hB1⟩
              refine ⟨_, rfl, ?_⟩
              refine hK.out _ _ ⟨below_then hHeld.1 hHeld.1.size hB1, blk_below hHeld.2 hB1⟩ (fun hHeld => ?_)
              clear hK K
              refine norm_ (a' := ?_) ?_ ?_
              rotate_left
              · show Act.put _ (some 13) _ = _
                simp only [Act.put, List.setIfInBounds_toArray, List.set_cons_zero, List.set_cons_succ]
                rfl
              refine pu_ 3 (some 14) (bm 47 15) ?_
              refine pu_ 4 (some 15) (bm 47 31) ?_
              refine pu_ 5 (some 16) (bm 47 63) ?_
              refine ta_ 6 (some 17) (bm 47 127) hHeld (fun _ hSw => (blk_cell hSw.2 2).trans rfl) ?_
              refine pu_ 7 (some 18) (bm 47 255) ?_ (hy := by intro w'; go_simp; (try simp only [p2]); with_reducible rfl)
              refine pu_ 8 (some 19) (bm 47 511) ?_
              refine pu_ 9 (some 20) (bm 47 1023) ?_
              refine pu_ 10 (some 21) (bm 47 2047) ?_
              refine ta_ 11 (some 22) (bm 47 4095) hHeld (fun _ hSw => (blk_cell hSw.2 2).trans rfl) ?_
              refine pu_ 12 (some 23) (bm 47 8191) ?_
              refine pu_ 13 (some 24) (bm 47 16383) ?_
              refine pu_ 14 (some 25) (bm 47 32767) ?_
              refine ta_ 15 (some 26) (bm 47 65535) hHeld (fun _ hSw => (blk_cell (blk_below hWb hSw.1) 3).trans rfl) ?_
              refine pu_ 16 (some 27) (bm 47 131071) ?_ (hy := by intro w'; go_simp; (try simp only [p3]); with_reducible rfl)
              refine pu_ 17 (some 28) (bm 47 262143) ?_
              refine pu_ 18 (some 29) (bm 47 524287) ?_
              refine pu_ 19 (some 30) (bm 47 1048575) ?_
              refine ta_ 20 (some 31) (bm 47 2097151) hHeld (fun _ hSw => (blk_cell hSw.2 3).trans rfl) ?_
              refine one_ (i := 21) (N := (some 32)) (bm 47 4194303) rfl rfl (by kernel_rfl) (by decide) (fun K hK => ?_)
              refine goes_ Tryz.func84 (by kernel_rfl) rfl #[.int .i64 f3] (by rfl) rfl rfl (by try simp only [List.map_toArray, List.map_cons, List.map_nil]; first | done | rfl) ?_
              refine (hbi _).mono ?_
              rintro e w' ⟨rfl, hw⟩
              obtain rfl := hw.symm
              refine ⟨_, rfl, ?_⟩
              refine hK.out _ _ hHeld (fun hHeld => ?_)
              clear hK K
              refine norm_ (a' := ?_) ?_ ?_
              rotate_left
              · show Act.put _ (some 32) _ = _
                simp only [Act.put, List.setIfInBounds_toArray, List.set_cons_zero, List.set_cons_succ]
                rfl
              refine pu_ 22 (some 33) (bm 47 8388607) ?_
              refine pu_ 23 (some 34) (bm 47 16777215) ?_
              refine pu_ 24 (some 35) (bm 47 33554431) ?_
              refine pu_ 25 (some 36) (bm 47 67108863) ?_
              refine ta_ 26 (some 37) (bm 47 134217727) hHeld (fun _ hSw => (blk_cell hSw.2 4).trans rfl) ?_
              refine pu_ 27 (some 38) (bm 47 268435455) ?_ (hy := by intro w'; go_simp; (try simp only [p5]); with_reducible rfl)
              refine pu_ 28 (some 39) (bm 47 536870911) ?_
              refine pu_ 29 (some 40) (bm 47 1073741823) ?_
              refine pu_ 30 (some 41) (bm 47 2147483647) ?_
              refine ta_ 31 (some 42) (bm 47 4294967295) hHeld (fun _ hSw => (blk_cell hSw.2 4).trans rfl) ?_
              refine pu_ 32 (some 43) (bm 47 8589934591) ?_
              refine pu_ 33 (some 44) (bm 47 17179869183) ?_
              refine pu_ 34 (some 45) (bm 47 34359738367) ?_
              refine pu_ 35 (some 46) (bm 47 68719476735) ?_
              refine ta_ 36 (some 47) (bm 47 137438953471) hHeld (fun _ hSw => (blk_cell (blk_below hWb hSw.1) 2).trans rfl) ?_
              refine one_ (i := 37) (N := (some 48)) (bm 47 274877906943) rfl rfl (by kernel_rfl) (by decide) (fun K hK => ?_)
              refine goes_ Tryz.func80 (by kernel_rfl) rfl #[.pointer (some ⟨B, 0, none⟩)] (by rfl) rfl rfl (by try simp only [List.map_toArray, List.map_cons, List.map_nil]; first | done | rfl) ?_
              refine (hbl _ hHeld.1).mono ?_
              rintro e w' ⟨rfl, hw⟩
              obtain rfl := hw.symm
              refine ⟨_, rfl, ?_⟩
              refine hK.out _ _ hHeld (fun hHeld => ?_)
              clear hK K
              refine norm_ (a' := ?_) ?_ ?_
              rotate_left
              · show Act.put _ (some 48) _ = _
                simp only [Act.put, List.setIfInBounds_toArray, List.set_cons_zero, List.set_cons_succ]
                rfl
              refine pu_ 38 (some 49) (bm 47 549755813887) ?_ (hy := by intro w'; go_simp; (try simp only [p6]); with_reducible rfl)
              refine pu_ 39 (some 50) (bm 47 1099511627775) ?_
              refine pu_ 40 (some 51) (bm 47 2199023255551) ?_
              refine st_ 41 (some 52) (bm 47 4398046511103) ?_
              refine st_ 42 (some 53) (bm 47 8796093022207) ?_
              refine st_ 43 (some 54) (bm 47 17592186044415) ?_
              refine st_ 44 (some 55) (bm 47 35184372088831) ?_
              refine pu_ 45 (some 56) (bm 47 70368744177663) ?_
              refine pu_ 46 (some 10) (bm 47 140737488355327) ?_
              refine done_ (by kernel_rfl) ?_
              go_wp2
              go_ret2
              exact hno.out _ hHeld.1
            · have p6 : decide ((st.sg.length : Int) < f4) = false := decide_eq_false k6
              cases n7 : rightW f5.data.toList with
              | false =>
                rw [n7] at hri
                have HF := hd_ (HM.out.trans (if_pos (by simp only [badL]; simp [n1, k2, k3, n4, k5, k6, n7])))
                have hno := hd_ (fun W hB => h.no (W := W) HF.out hB)
                clear HM h hB hgi hadd hownl hL hT hown hsl
                go_enter Tryz.func53, Tryz.ntmps53
                go_wp2
                refine start_ (n := 47) (S := (fun W_ => Below w.heap.size w W_ ∧ W_.heap[w.heap.size]? = some (.cells #[.int .i64 f0, .int .i64 f1, .int .i64 f2, .int .i64 f3, .int .i64 f4, .string f5] 39 (0, 0)))) (ds := []) (bm 47 0) (by kernel_rfl) rfl (by kernel_rfl) ⟨below_drew (hb _), blk_new w _⟩ (fun hHeld => ?_)
                refine pu_ 0 (some 11) (bm 47 1) ?_
                refine pu_ 1 (some 12) (bm 47 3) ?_
                refine one_ (i := 2) (N := (some 13)) (bm 47 7) rfl rfl (by kernel_rfl) (by decide) (fun K hK => ?_)
                refine goes_ Tryz.func83 (by kernel_rfl) rfl #[.pointer (some ⟨Wb, 0, none⟩), .int .i64 node] (by rfl) rfl rfl (by try simp only [List.map_toArray, List.map_cons, List.map_nil]; first | done | rfl) ?_
                refine (hth _ hHeld.1).mono ?_
                rintro e w1 ⟨rfl, hB1⟩
                refine ⟨_, rfl, ?_⟩
                refine hK.out _ _ ⟨below_then hHeld.1 hHeld.1.size hB1, blk_below hHeld.2 hB1⟩ (fun hHeld => ?_)
                clear hK K
                refine norm_ (a' := ?_) ?_ ?_
                rotate_left
                · show Act.put _ (some 13) _ = _
                  simp only [Act.put, List.setIfInBounds_toArray, List.set_cons_zero, List.set_cons_succ]
                  rfl
                refine pu_ 3 (some 14) (bm 47 15) ?_
                refine pu_ 4 (some 15) (bm 47 31) ?_
                refine pu_ 5 (some 16) (bm 47 63) ?_
                refine ta_ 6 (some 17) (bm 47 127) hHeld (fun _ hSw => (blk_cell hSw.2 2).trans rfl) ?_
                refine pu_ 7 (some 18) (bm 47 255) ?_ (hy := by intro w'; go_simp; (try simp only [p2]); with_reducible rfl)
                refine pu_ 8 (some 19) (bm 47 511) ?_
                refine pu_ 9 (some 20) (bm 47 1023) ?_
                refine pu_ 10 (some 21) (bm 47 2047) ?_
                refine ta_ 11 (some 22) (bm 47 4095) hHeld (fun _ hSw => (blk_cell hSw.2 2).trans rfl) ?_
                refine pu_ 12 (some 23) (bm 47 8191) ?_
                refine pu_ 13 (some 24) (bm 47 16383) ?_
                refine pu_ 14 (some 25) (bm 47 32767) ?_
                refine ta_ 15 (some 26) (bm 47 65535) hHeld (fun _ hSw => (blk_cell (blk_below hWb hSw.1) 3).trans rfl) ?_
                refine pu_ 16 (some 27) (bm 47 131071) ?_ (hy := by intro w'; go_simp; (try simp only [p3]); with_reducible rfl)
                refine pu_ 17 (some 28) (bm 47 262143) ?_
                refine pu_ 18 (some 29) (bm 47 524287) ?_
                refine pu_ 19 (some 30) (bm 47 1048575) ?_
                refine ta_ 20 (some 31) (bm 47 2097151) hHeld (fun _ hSw => (blk_cell hSw.2 3).trans rfl) ?_
                refine one_ (i := 21) (N := (some 32)) (bm 47 4194303) rfl rfl (by kernel_rfl) (by decide) (fun K hK => ?_)
                refine goes_ Tryz.func84 (by kernel_rfl) rfl #[.int .i64 f3] (by rfl) rfl rfl (by try simp only [List.map_toArray, List.map_cons, List.map_nil]; first | done | rfl) ?_
                refine (hbi _).mono ?_
                rintro e w' ⟨rfl, hw⟩
                obtain rfl := hw.symm
                refine ⟨_, rfl, ?_⟩
                refine hK.out _ _ hHeld (fun hHeld => ?_)
                clear hK K
                refine norm_ (a' := ?_) ?_ ?_
                rotate_left
                · show Act.put _ (some 32) _ = _
                  simp only [Act.put, List.setIfInBounds_toArray, List.set_cons_zero, List.set_cons_succ]
                  rfl
                refine pu_ 22 (some 33) (bm 47 8388607) ?_
                refine pu_ 23 (some 34) (bm 47 16777215) ?_
                refine pu_ 24 (some 35) (bm 47 33554431) ?_
                refine pu_ 25 (some 36) (bm 47 67108863) ?_
                refine ta_ 26 (some 37) (bm 47 134217727) hHeld (fun _ hSw => (blk_cell hSw.2 4).trans rfl) ?_
                refine pu_ 27 (some 38) (bm 47 268435455) ?_ (hy := by intro w'; go_simp; (try simp only [p5]); with_reducible rfl)
                refine pu_ 28 (some 39) (bm 47 536870911) ?_
                refine pu_ 29 (some 40) (bm 47 1073741823) ?_
                refine pu_ 30 (some 41) (bm 47 2147483647) ?_
                refine ta_ 31 (some 42) (bm 47 4294967295) hHeld (fun _ hSw => (blk_cell hSw.2 4).trans rfl) ?_
                refine pu_ 32 (some 43) (bm 47 8589934591) ?_
                refine pu_ 33 (some 44) (bm 47 17179869183) ?_
                refine pu_ 34 (some 45) (bm 47 34359738367) ?_
                refine pu_ 35 (some 46) (bm 47 68719476735) ?_
                refine ta_ 36 (some 47) (bm 47 137438953471) hHeld (fun _ hSw => (blk_cell (blk_below hWb hSw.1) 2).trans rfl) ?_
                refine one_ (i := 37) (N := (some 48)) (bm 47 274877906943) rfl rfl (by kernel_rfl) (by decide) (fun K hK => ?_)
                refine goes_ Tryz.func80 (by kernel_rfl) rfl #[.pointer (some ⟨B, 0, none⟩)] (by rfl) rfl rfl (by try simp only [List.map_toArray, List.map_cons, List.map_nil]; first | done | rfl) ?_
                refine (hbl _ hHeld.1).mono ?_
                rintro e w' ⟨rfl, hw⟩
                obtain rfl := hw.symm
                refine ⟨_, rfl, ?_⟩
                refine hK.out _ _ hHeld (fun hHeld => ?_)
                clear hK K
                refine norm_ (a' := ?_) ?_ ?_
                rotate_left
                · show Act.put _ (some 48) _ = _
                  simp only [Act.put, List.setIfInBounds_toArray, List.set_cons_zero, List.set_cons_succ]
                  rfl
                refine pu_ 38 (some 49) (bm 47 549755813887) ?_ (hy := by intro w'; go_simp; (try simp only [p6]); with_reducible rfl)
                refine pu_ 39 (some 50) (bm 47 1099511627775) ?_
                refine pu_ 40 (some 51) (bm 47 2199023255551) ?_
                refine pu_ 41 (some 52) (bm 47 4398046511103) ?_
                refine ta_ 42 (some 53) (bm 47 8796093022207) hHeld (fun _ hSw => (blk_cell hSw.2 5).trans rfl) ?_
                refine one_ (i := 43) (N := (some 54)) (bm 47 17592186044415) rfl rfl (by kernel_rfl) (by decide) (fun K hK => ?_)
                refine goes_ Tryz.func38 (by kernel_rfl) rfl #[.string f5] (by rfl) rfl rfl (by try simp only [List.map_toArray, List.map_cons, List.map_nil]; first | done | rfl) ?_
                refine (hri _).mono ?_
                rintro e w1 ⟨rfl, hB1⟩
                refine ⟨_, rfl, ?_⟩
                refine hK.out _ _ ⟨below_then hHeld.1 hHeld.1.size hB1, blk_below hHeld.2 hB1⟩ (fun hHeld => ?_)
                clear hK K
                refine norm_ (a' := ?_) ?_ ?_
                rotate_left
                · show Act.put _ (some 54) _ = _
                  simp only [Act.put, List.setIfInBounds_toArray, List.set_cons_zero, List.set_cons_succ]
                  rfl
                refine pu_ 44 (some 55) (bm 47 35184372088831) ?_
                refine pu_ 45 (some 56) (bm 47 70368744177663) ?_
                refine pu_ 46 (some 10) (bm 47 140737488355327) ?_
                refine done_ (by kernel_rfl) ?_
                go_wp2
                go_ret2
                exact hno.out _ hHeld.1
              | true =>
                rw [n7] at hri
                replace HM := hd_ (HM.out.trans (if_neg (by simp only [badL]; simp [n1, k2, k3, n4, k5, k6, n7])))
                cases hgb : givenG st.sg f4 with
                | true =>
                  have HF := hd_ (HM.out.trans (if_pos hgb))
                  have hno := hd_ (fun W hB => h.no (W := W) HF.out hB)
                  rw [hgb] at hgi
                  clear HM h hB hadd hownl hL hT hown hsl
                  go_enter Tryz.func53, Tryz.ntmps53
                  go_wp2
                  refine start_ (n := 47) (S := (fun W_ => Below w.heap.size w W_ ∧ W_.heap[w.heap.size]? = some (.cells #[.int .i64 f0, .int .i64 f1, .int .i64 f2, .int .i64 f3, .int .i64 f4, .string f5] 39 (0, 0)))) (ds := []) (bm 47 0) (by kernel_rfl) rfl (by kernel_rfl) ⟨below_drew (hb _), blk_new w _⟩ (fun hHeld => ?_)
                  refine pu_ 0 (some 11) (bm 47 1) ?_
                  refine pu_ 1 (some 12) (bm 47 3) ?_
                  refine one_ (i := 2) (N := (some 13)) (bm 47 7) rfl rfl (by kernel_rfl) (by decide) (fun K hK => ?_)
                  refine goes_ Tryz.func83 (by kernel_rfl) rfl #[.pointer (some ⟨Wb, 0, none⟩), .int .i64 node] (by rfl) rfl rfl (by try simp only [List.map_toArray, List.map_cons, List.map_nil]; first | done | rfl) ?_
                  refine (hth _ hHeld.1).mono ?_
                  rintro e w1 ⟨rfl, hB1⟩
                  refine ⟨_, rfl, ?_⟩
                  refine hK.out _ _ ⟨below_then hHeld.1 hHeld.1.size hB1, blk_below hHeld.2 hB1⟩ (fun hHeld => ?_)
                  clear hK K
                  refine norm_ (a' := ?_) ?_ ?_
                  rotate_left
                  · show Act.put _ (some 13) _ = _
                    simp only [Act.put, List.setIfInBounds_toArray, List.set_cons_zero, List.set_cons_succ]
                    rfl
                  refine pu_ 3 (some 14) (bm 47 15) ?_
                  refine pu_ 4 (some 15) (bm 47 31) ?_
                  refine pu_ 5 (some 16) (bm 47 63) ?_
                  refine ta_ 6 (some 17) (bm 47 127) hHeld (fun _ hSw => (blk_cell hSw.2 2).trans rfl) ?_
                  refine pu_ 7 (some 18) (bm 47 255) ?_ (hy := by intro w'; go_simp; (try simp only [p2]); with_reducible rfl)
                  refine pu_ 8 (some 19) (bm 47 511) ?_
                  refine pu_ 9 (some 20) (bm 47 1023) ?_
                  refine pu_ 10 (some 21) (bm 47 2047) ?_
                  refine ta_ 11 (some 22) (bm 47 4095) hHeld (fun _ hSw => (blk_cell hSw.2 2).trans rfl) ?_
                  refine pu_ 12 (some 23) (bm 47 8191) ?_
                  refine pu_ 13 (some 24) (bm 47 16383) ?_
                  refine pu_ 14 (some 25) (bm 47 32767) ?_
                  refine ta_ 15 (some 26) (bm 47 65535) hHeld (fun _ hSw => (blk_cell (blk_below hWb hSw.1) 3).trans rfl) ?_
                  refine pu_ 16 (some 27) (bm 47 131071) ?_ (hy := by intro w'; go_simp; (try simp only [p3]); with_reducible rfl)
                  refine pu_ 17 (some 28) (bm 47 262143) ?_
                  refine pu_ 18 (some 29) (bm 47 524287) ?_
                  refine pu_ 19 (some 30) (bm 47 1048575) ?_
                  refine ta_ 20 (some 31) (bm 47 2097151) hHeld (fun _ hSw => (blk_cell hSw.2 3).trans rfl) ?_
                  refine one_ (i := 21) (N := (some 32)) (bm 47 4194303) rfl rfl (by kernel_rfl) (by decide) (fun K hK => ?_)
                  refine goes_ Tryz.func84 (by kernel_rfl) rfl #[.int .i64 f3] (by rfl) rfl rfl (by try simp only [List.map_toArray, List.map_cons, List.map_nil]; first | done | rfl) ?_
                  refine (hbi _).mono ?_
                  rintro e w' ⟨rfl, hw⟩
                  obtain rfl := hw.symm
                  refine ⟨_, rfl, ?_⟩
                  refine hK.out _ _ hHeld (fun hHeld => ?_)
                  clear hK K
                  refine norm_ (a' := ?_) ?_ ?_
                  rotate_left
                  · show Act.put _ (some 32) _ = _
                    simp only [Act.put, List.setIfInBounds_toArray, List.set_cons_zero, List.set_cons_succ]
                    rfl
                  refine pu_ 22 (some 33) (bm 47 8388607) ?_
                  refine pu_ 23 (some 34) (bm 47 16777215) ?_
                  refine pu_ 24 (some 35) (bm 47 33554431) ?_
                  refine pu_ 25 (some 36) (bm 47 67108863) ?_
                  refine ta_ 26 (some 37) (bm 47 134217727) hHeld (fun _ hSw => (blk_cell hSw.2 4).trans rfl) ?_
                  refine pu_ 27 (some 38) (bm 47 268435455) ?_ (hy := by intro w'; go_simp; (try simp only [p5]); with_reducible rfl)
                  refine pu_ 28 (some 39) (bm 47 536870911) ?_
                  refine pu_ 29 (some 40) (bm 47 1073741823) ?_
                  refine pu_ 30 (some 41) (bm 47 2147483647) ?_
                  refine ta_ 31 (some 42) (bm 47 4294967295) hHeld (fun _ hSw => (blk_cell hSw.2 4).trans rfl) ?_
                  refine pu_ 32 (some 43) (bm 47 8589934591) ?_
                  refine pu_ 33 (some 44) (bm 47 17179869183) ?_
                  refine pu_ 34 (some 45) (bm 47 34359738367) ?_
                  refine pu_ 35 (some 46) (bm 47 68719476735) ?_
                  refine ta_ 36 (some 47) (bm 47 137438953471) hHeld (fun _ hSw => (blk_cell (blk_below hWb hSw.1) 2).trans rfl) ?_
                  refine one_ (i := 37) (N := (some 48)) (bm 47 274877906943) rfl rfl (by kernel_rfl) (by decide) (fun K hK => ?_)
                  refine goes_ Tryz.func80 (by kernel_rfl) rfl #[.pointer (some ⟨B, 0, none⟩)] (by rfl) rfl rfl (by try simp only [List.map_toArray, List.map_cons, List.map_nil]; first | done | rfl) ?_
                  refine (hbl _ hHeld.1).mono ?_
                  rintro e w' ⟨rfl, hw⟩
                  obtain rfl := hw.symm
                  refine ⟨_, rfl, ?_⟩
                  refine hK.out _ _ hHeld (fun hHeld => ?_)
                  clear hK K
                  refine norm_ (a' := ?_) ?_ ?_
                  rotate_left
                  · show Act.put _ (some 48) _ = _
                    simp only [Act.put, List.setIfInBounds_toArray, List.set_cons_zero, List.set_cons_succ]
                    rfl
                  refine pu_ 38 (some 49) (bm 47 549755813887) ?_ (hy := by intro w'; go_simp; (try simp only [p6]); with_reducible rfl)
                  refine pu_ 39 (some 50) (bm 47 1099511627775) ?_
                  refine pu_ 40 (some 51) (bm 47 2199023255551) ?_
                  refine pu_ 41 (some 52) (bm 47 4398046511103) ?_
                  refine ta_ 42 (some 53) (bm 47 8796093022207) hHeld (fun _ hSw => (blk_cell hSw.2 5).trans rfl) ?_
                  refine one_ (i := 43) (N := (some 54)) (bm 47 17592186044415) rfl rfl (by kernel_rfl) (by decide) (fun K hK => ?_)
                  refine goes_ Tryz.func38 (by kernel_rfl) rfl #[.string f5] (by rfl) rfl rfl (by try simp only [List.map_toArray, List.map_cons, List.map_nil]; first | done | rfl) ?_
                  refine (hri _).mono ?_
                  rintro e w1 ⟨rfl, hB1⟩
                  refine ⟨_, rfl, ?_⟩
                  refine hK.out _ _ ⟨below_then hHeld.1 hHeld.1.size hB1, blk_below hHeld.2 hB1⟩ (fun hHeld => ?_)
                  clear hK K
                  refine norm_ (a' := ?_) ?_ ?_
                  rotate_left
                  · show Act.put _ (some 54) _ = _
                    simp only [Act.put, List.setIfInBounds_toArray, List.set_cons_zero, List.set_cons_succ]
                    rfl
                  refine pu_ 44 (some 55) (bm 47 35184372088831) ?_
                  refine pu_ 45 (some 56) (bm 47 70368744177663) ?_
                  refine pu_ 46 (some 10) (bm 47 140737488355327) ?_
                  refine done_ (by kernel_rfl) ?_
                  go_wp2
                  refine start_ (n := 9) (S := (fun W_ => Below w.heap.size w W_ ∧ W_.heap[w.heap.size]? = some (.cells #[.int .i64 f0, .int .i64 f1, .int .i64 f2, .int .i64 f3, .int .i64 f4, .string f5] 39 (0, 0)))) (ds := []) (bm 9 0) (by kernel_rfl) rfl (by kernel_rfl) ⟨below_then hHeld.1 hHeld.1.size (below_drew (Below.refl _ _)), hHeld.2⟩ (fun hHeld => ?_)
                  refine pu_ 0 (some 58) (bm 9 1) ?_
                  refine pu_ 1 (some 59) (bm 9 3) ?_
                  refine pu_ 2 (some 60) (bm 9 7) ?_
                  refine pu_ 3 (some 61) (bm 9 15) ?_
                  refine ta_ 4 (some 62) (bm 9 31) hHeld (fun _ hSw => (blk_cell (blk_below hWb hSw.1) 2).trans rfl) ?_
                  refine pu_ 5 (some 63) (bm 9 63) ?_
                  refine ta_ 6 (some 64) (bm 9 127) hHeld (fun _ hSw => (blk_cell hSw.2 4).trans rfl) ?_
                  refine one_ (i := 7) (N := (some 65)) (bm 9 255) rfl rfl (by kernel_rfl) (by decide) (fun K hK => ?_)
                  refine goes_ Tryz.func77 (by kernel_rfl) rfl #[.pointer (some ⟨B, 0, none⟩), .int .i64 f4] (by rfl) rfl rfl (by try simp only [List.map_toArray, List.map_cons, List.map_nil]; first | done | rfl) ?_
                  refine (hgi _ hHeld.1).mono ?_
                  rintro e w' ⟨rfl, hw⟩
                  obtain rfl := hw.symm
                  refine ⟨_, rfl, ?_⟩
                  refine hK.out _ _ hHeld (fun hHeld => ?_)
                  clear hK K
                  refine norm_ (a' := ?_) ?_ ?_
                  rotate_left
                  · show Act.put _ (some 65) _ = _
                    simp only [Act.put, List.setIfInBounds_toArray, List.set_cons_zero, List.set_cons_succ]
                    rfl
                  refine pu_ 8 (some 57) (bm 9 511) ?_
                  refine done_ (by kernel_rfl) ?_
                  go_wp2
                  go_ret2
                  exact hno.out _ hHeld.1
                | false =>
                  replace HM := hd_ (HM.out.trans (if_neg (by rw [hgb]; simp)))
                  rw [hgb] at hgi
                  replace hbt := hd_ n4
                  replace h := hd_ h
                  replace hT := hd_ hT
                  clear hB hown hsl hL hgb n1 k2 k3 n4 k5 k6 n7
                  replace hownl := hd_ hownl
                  generalize addR st.ls node (lsnX ⟨f0, f1, f2, f3, f4, f5⟩) = ar at *
                  obtain ⟨lk, ri, re⟩ := ar
                  unfold AddPost at hadd
                  dsimp only at hadd
                  dsimp only at HM
                  by_cases k8 : ri = 0
                  · have HF := hd_ (HM.out.trans (if_pos k8))
                    subst k8
                    clear HM
                    go_enter Tryz.func53, Tryz.ntmps53
                    go_wp2
                    refine start_ (n := 47) (S := (fun W_ => Below w.heap.size w W_ ∧ W_.heap[w.heap.size]? = some (.cells #[.int .i64 f0, .int .i64 f1, .int .i64 f2, .int .i64 f3, .int .i64 f4, .string f5] 39 (0, 0)))) (ds := []) (bm 47 0) (by kernel_rfl) rfl (by kernel_rfl) ⟨below_drew (hb _), blk_new w _⟩ (fun hHeld => ?_)
                    refine pu_ 0 (some 11) (bm 47 1) ?_
                    refine pu_ 1 (some 12) (bm 47 3) ?_
                    refine one_ (i := 2) (N := (some 13)) (bm 47 7) rfl rfl (by kernel_rfl) (by decide) (fun K hK => ?_)
                    refine goes_ Tryz.func83 (by kernel_rfl) rfl #[.pointer (some ⟨Wb, 0, none⟩), .int .i64 node] (by rfl) rfl rfl (by try simp only [List.map_toArray, List.map_cons, List.map_nil]; first | done | rfl) ?_
                    refine (hth _ hHeld.1).mono ?_
                    rintro e w1 ⟨rfl, hB1⟩
                    refine ⟨_, rfl, ?_⟩
                    refine hK.out _ _ ⟨below_then hHeld.1 hHeld.1.size hB1, blk_below hHeld.2 hB1⟩ (fun hHeld => ?_)
                    clear hK K
                    refine norm_ (a' := ?_) ?_ ?_
                    rotate_left
                    · show Act.put _ (some 13) _ = _
                      simp only [Act.put, List.setIfInBounds_toArray, List.set_cons_zero, List.set_cons_succ]
                      rfl
                    refine pu_ 3 (some 14) (bm 47 15) ?_
                    refine pu_ 4 (some 15) (bm 47 31) ?_
                    refine pu_ 5 (some 16) (bm 47 63) ?_
                    refine ta_ 6 (some 17) (bm 47 127) hHeld (fun _ hSw => (blk_cell hSw.2 2).trans rfl) ?_
                    refine pu_ 7 (some 18) (bm 47 255) ?_ (hy := by intro w'; go_simp; (try simp only [p2]); with_reducible rfl)
                    refine pu_ 8 (some 19) (bm 47 511) ?_
                    refine pu_ 9 (some 20) (bm 47 1023) ?_
                    refine pu_ 10 (some 21) (bm 47 2047) ?_
                    refine ta_ 11 (some 22) (bm 47 4095) hHeld (fun _ hSw => (blk_cell hSw.2 2).trans rfl) ?_
                    refine pu_ 12 (some 23) (bm 47 8191) ?_
                    refine pu_ 13 (some 24) (bm 47 16383) ?_
                    refine pu_ 14 (some 25) (bm 47 32767) ?_
                    refine ta_ 15 (some 26) (bm 47 65535) hHeld (fun _ hSw => (blk_cell (blk_below hWb hSw.1) 3).trans rfl) ?_
                    refine pu_ 16 (some 27) (bm 47 131071) ?_ (hy := by intro w'; go_simp; (try simp only [p3]); with_reducible rfl)
                    refine pu_ 17 (some 28) (bm 47 262143) ?_
                    refine pu_ 18 (some 29) (bm 47 524287) ?_
                    refine pu_ 19 (some 30) (bm 47 1048575) ?_
                    refine ta_ 20 (some 31) (bm 47 2097151) hHeld (fun _ hSw => (blk_cell hSw.2 3).trans rfl) ?_
                    refine one_ (i := 21) (N := (some 32)) (bm 47 4194303) rfl rfl (by kernel_rfl) (by decide) (fun K hK => ?_)
                    refine goes_ Tryz.func84 (by kernel_rfl) rfl #[.int .i64 f3] (by rfl) rfl rfl (by try simp only [List.map_toArray, List.map_cons, List.map_nil]; first | done | rfl) ?_
                    refine (hbi _).mono ?_
                    rintro e w' ⟨rfl, hw⟩
                    obtain rfl := hw.symm
                    refine ⟨_, rfl, ?_⟩
                    refine hK.out _ _ hHeld (fun hHeld => ?_)
                    clear hK K
                    refine norm_ (a' := ?_) ?_ ?_
                    rotate_left
                    · show Act.put _ (some 32) _ = _
                      simp only [Act.put, List.setIfInBounds_toArray, List.set_cons_zero, List.set_cons_succ]
                      rfl
                    refine pu_ 22 (some 33) (bm 47 8388607) ?_
                    refine pu_ 23 (some 34) (bm 47 16777215) ?_
                    refine pu_ 24 (some 35) (bm 47 33554431) ?_
                    refine pu_ 25 (some 36) (bm 47 67108863) ?_
                    refine ta_ 26 (some 37) (bm 47 134217727) hHeld (fun _ hSw => (blk_cell hSw.2 4).trans rfl) ?_
                    refine pu_ 27 (some 38) (bm 47 268435455) ?_ (hy := by intro w'; go_simp; (try simp only [p5]); with_reducible rfl)
                    refine pu_ 28 (some 39) (bm 47 536870911) ?_
                    refine pu_ 29 (some 40) (bm 47 1073741823) ?_
                    refine pu_ 30 (some 41) (bm 47 2147483647) ?_
                    refine ta_ 31 (some 42) (bm 47 4294967295) hHeld (fun _ hSw => (blk_cell hSw.2 4).trans rfl) ?_
                    refine pu_ 32 (some 43) (bm 47 8589934591) ?_
                    refine pu_ 33 (some 44) (bm 47 17179869183) ?_
                    refine pu_ 34 (some 45) (bm 47 34359738367) ?_
                    refine pu_ 35 (some 46) (bm 47 68719476735) ?_
                    refine ta_ 36 (some 47) (bm 47 137438953471) hHeld (fun _ hSw => (blk_cell (blk_below hWb hSw.1) 2).trans rfl) ?_
                    refine one_ (i := 37) (N := (some 48)) (bm 47 274877906943) rfl rfl (by kernel_rfl) (by decide) (fun K hK => ?_)
                    refine goes_ Tryz.func80 (by kernel_rfl) rfl #[.pointer (some ⟨B, 0, none⟩)] (by rfl) rfl rfl (by try simp only [List.map_toArray, List.map_cons, List.map_nil]; first | done | rfl) ?_
                    refine (hbl _ hHeld.1).mono ?_
                    rintro e w' ⟨rfl, hw⟩
                    obtain rfl := hw.symm
                    refine ⟨_, rfl, ?_⟩
                    refine hK.out _ _ hHeld (fun hHeld => ?_)
                    clear hK K
                    refine norm_ (a' := ?_) ?_ ?_
                    rotate_left
                    · show Act.put _ (some 48) _ = _
                      simp only [Act.put, List.setIfInBounds_toArray, List.set_cons_zero, List.set_cons_succ]
                      rfl
                    refine pu_ 38 (some 49) (bm 47 549755813887) ?_ (hy := by intro w'; go_simp; (try simp only [p6]); with_reducible rfl)
                    refine pu_ 39 (some 50) (bm 47 1099511627775) ?_
                    refine pu_ 40 (some 51) (bm 47 2199023255551) ?_
                    refine pu_ 41 (some 52) (bm 47 4398046511103) ?_
                    refine ta_ 42 (some 53) (bm 47 8796093022207) hHeld (fun _ hSw => (blk_cell hSw.2 5).trans rfl) ?_
                    refine one_ (i := 43) (N := (some 54)) (bm 47 17592186044415) rfl rfl (by kernel_rfl) (by decide) (fun K hK => ?_)
                    refine goes_ Tryz.func38 (by kernel_rfl) rfl #[.string f5] (by rfl) rfl rfl (by try simp only [List.map_toArray, List.map_cons, List.map_nil]; first | done | rfl) ?_
                    refine (hri _).mono ?_
                    rintro e w1 ⟨rfl, hB1⟩
                    refine ⟨_, rfl, ?_⟩
                    refine hK.out _ _ ⟨below_then hHeld.1 hHeld.1.size hB1, blk_below hHeld.2 hB1⟩ (fun hHeld => ?_)
                    clear hK K
                    refine norm_ (a' := ?_) ?_ ?_
                    rotate_left
                    · show Act.put _ (some 54) _ = _
                      simp only [Act.put, List.setIfInBounds_toArray, List.set_cons_zero, List.set_cons_succ]
                      rfl
                    refine pu_ 44 (some 55) (bm 47 35184372088831) ?_
                    refine pu_ 45 (some 56) (bm 47 70368744177663) ?_
                    refine pu_ 46 (some 10) (bm 47 140737488355327) ?_
                    refine done_ (by kernel_rfl) ?_
                    go_wp2
                    refine start_ (n := 9) (S := (fun W_ => Below w.heap.size w W_ ∧ W_.heap[w.heap.size]? = some (.cells #[.int .i64 f0, .int .i64 f1, .int .i64 f2, .int .i64 f3, .int .i64 f4, .string f5] 39 (0, 0)))) (ds := []) (bm 9 0) (by kernel_rfl) rfl (by kernel_rfl) ⟨below_then hHeld.1 hHeld.1.size (below_drew (Below.refl _ _)), hHeld.2⟩ (fun hHeld => ?_)
                    refine pu_ 0 (some 58) (bm 9 1) ?_
                    refine pu_ 1 (some 59) (bm 9 3) ?_
                    refine pu_ 2 (some 60) (bm 9 7) ?_
                    refine pu_ 3 (some 61) (bm 9 15) ?_
                    refine ta_ 4 (some 62) (bm 9 31) hHeld (fun _ hSw => (blk_cell (blk_below hWb hSw.1) 2).trans rfl) ?_
                    refine pu_ 5 (some 63) (bm 9 63) ?_
                    refine ta_ 6 (some 64) (bm 9 127) hHeld (fun _ hSw => (blk_cell hSw.2 4).trans rfl) ?_
                    refine one_ (i := 7) (N := (some 65)) (bm 9 255) rfl rfl (by kernel_rfl) (by decide) (fun K hK => ?_)
                    refine goes_ Tryz.func77 (by kernel_rfl) rfl #[.pointer (some ⟨B, 0, none⟩), .int .i64 f4] (by rfl) rfl rfl (by try simp only [List.map_toArray, List.map_cons, List.map_nil]; first | done | rfl) ?_
                    refine (hgi _ hHeld.1).mono ?_
                    rintro e w' ⟨rfl, hw⟩
                    obtain rfl := hw.symm
                    refine ⟨_, rfl, ?_⟩
                    refine hK.out _ _ hHeld (fun hHeld => ?_)
                    clear hK K
                    refine norm_ (a' := ?_) ?_ ?_
                    rotate_left
                    · show Act.put _ (some 65) _ = _
                      simp only [Act.put, List.setIfInBounds_toArray, List.set_cons_zero, List.set_cons_succ]
                      rfl
                    refine pu_ 8 (some 57) (bm 9 511) ?_
                    refine done_ (by kernel_rfl) ?_
                    go_wp2
                    refine start_ (n := 29) (S := (fun W_ => Below w.heap.size w W_ ∧ W_.heap[w.heap.size]? = some (.cells #[.int .i64 f0, .int .i64 f1, .int .i64 f2, .int .i64 f3, .int .i64 f4, .string f5] 39 (0, 0)))) (ds := [23]) (bm 29 0) (by kernel_rfl) rfl (by kernel_rfl) ⟨below_then hHeld.1 hHeld.1.size (below_drew (Below.refl _ _)), hHeld.2⟩ (fun hHeld => ?_)
                    refine pu_ 0 (some 67) (bm 29 1) ?_
                    refine pu_ 1 (some 68) (bm 29 3) ?_
                    refine pu_ 2 (some 69) (bm 29 7) ?_
                    refine pu_ 3 (some 70) (bm 29 15) ?_
                    refine ta_ 4 (some 71) (bm 29 31) hHeld (fun _ hSw => (blk_cell (blk_below hWb hSw.1) 1).trans rfl) ?_
                    refine pu_ 5 (some 72) (bm 29 63) ?_
                    refine pu_ 6 (some 73) (bm 29 127) ?_
                    refine ta_ 7 (some 74) (bm 29 255) hHeld (fun _ hSw => (blk_cell hSw.2 5).trans rfl) ?_
                    refine pu_ 8 (some 75) (bm 29 511) ?_
                    refine ta_ 9 (some 76) (bm 29 1023) hHeld (fun _ hSw => (blk_cell hSw.2 2).trans rfl) ?_
                    refine pu_ 10 (some 77) (bm 29 2047) ?_
                    refine ta_ 11 (some 78) (bm 29 4095) hHeld (fun _ hSw => (blk_cell hSw.2 3).trans rfl) ?_
                    refine pu_ 13 (some 80) (bm 29 12287) ?_
                    refine ta_ 14 (some 81) (bm 29 28671) hHeld (fun _ hSw => (blk_cell hSw.2 3).trans rfl) ?_
                    refine pu_ 16 (some 83) (bm 29 94207) ?_
                    refine ta_ 17 (some 84) (bm 29 225279) hHeld (fun _ hSw => (blk_cell hSw.2 3).trans rfl) ?_
                    refine pu_ 19 (some 86) (bm 29 749567) ?_
                    refine ta_ 20 (some 87) (bm 29 1798143) hHeld (fun _ hSw => (blk_cell hSw.2 4).trans rfl) ?_
                    refine one_ (i := 12) (N := (some 79)) (bm 29 1802239) rfl rfl (by kernel_rfl) (by decide) (fun K hK => ?_)
                    refine goes_ Tryz.func86 (by kernel_rfl) rfl #[.int .i64 f3, .int .i64 1] (by rfl) rfl rfl (by try simp only [List.map_toArray, List.map_cons, List.map_nil]; first | done | rfl) ?_
                    refine (has_any f3 1 (by decide) hbt.out _).mono ?_
                    rintro e w' ⟨rfl, hw⟩
                    obtain rfl := hw.symm
                    refine ⟨_, rfl, ?_⟩
                    refine hK.out _ _ hHeld (fun hHeld => ?_)
                    clear hK K
                    refine norm_ (a' := ?_) ?_ ?_
                    rotate_left
                    · show Act.put _ (some 79) _ = _
                      simp only [Act.put, List.setIfInBounds_toArray, List.set_cons_zero, List.set_cons_succ]
                      rfl
                    refine one_ (i := 15) (N := (some 82)) (bm 29 1835007) rfl rfl (by kernel_rfl) (by decide) (fun K hK => ?_)
                    refine goes_ Tryz.func86 (by kernel_rfl) rfl #[.int .i64 f3, .int .i64 2] (by rfl) rfl rfl (by try simp only [List.map_toArray, List.map_cons, List.map_nil]; first | done | rfl) ?_
                    refine (has_any f3 2 (by decide) hbt.out _).mono ?_
                    rintro e w' ⟨rfl, hw⟩
                    obtain rfl := hw.symm
                    refine ⟨_, rfl, ?_⟩
                    refine hK.out _ _ hHeld (fun hHeld => ?_)
                    clear hK K
                    refine norm_ (a' := ?_) ?_ ?_
                    rotate_left
                    · show Act.put _ (some 82) _ = _
                      simp only [Act.put, List.setIfInBounds_toArray, List.set_cons_zero, List.set_cons_succ]
                      rfl
                    refine one_ (i := 18) (N := (some 85)) (bm 29 2097151) rfl rfl (by kernel_rfl) (by decide) (fun K hK => ?_)
                    refine goes_ Tryz.func86 (by kernel_rfl) rfl #[.int .i64 f3, .int .i64 4] (by rfl) rfl rfl (by try simp only [List.map_toArray, List.map_cons, List.map_nil]; first | done | rfl) ?_
                    refine (has_any f3 4 (by decide) hbt.out _).mono ?_
                    rintro e w' ⟨rfl, hw⟩
                    obtain rfl := hw.symm
                    refine ⟨_, rfl, ?_⟩
                    refine hK.out _ _ hHeld (fun hHeld => ?_)
                    clear hK K
                    refine norm_ (a' := ?_) ?_ ?_
                    rotate_left
                    · show Act.put _ (some 85) _ = _
                      simp only [Act.put, List.setIfInBounds_toArray, List.set_cons_zero, List.set_cons_succ]
                      rfl
                    refine pu_ 21 (some 88) (bm 29 4194303) ?_
                    refine pu_ 22 (some 89) (bm 29 8388607) ?_
                    refine last_ (i := 23) (N := (some 90)) (bm 29 16777215) rfl rfl (by kernel_rfl) (by decide) (fun K hK => ?_)
                    refine goes_ Tryz.func85 (by kernel_rfl) rfl #[.pointer (some ⟨L, 0, none⟩), .int .i64 node, .agg #[.int .i64 0, .string f5, .int .i64 f2, .bool (hasB f3 1), .bool (hasB f3 2), .bool (hasB f3 4), .int .i64 f4, .bool false]] (by rfl) rfl rfl (by try simp only [List.map_toArray, List.map_cons, List.map_nil]; first | done | rfl) ?_
                    have hC5 := hHeld.1
                    have hX5 := hHeld.2
                    refine (hadd _ hC5).mono ?_
                    rintro e w5 ⟨rfl, own', ps', hL', hS'⟩
                    refine ⟨_, rfl, ?_⟩
                    refine hK.out _ _ ?_
                    clear hK K
                    refine norm_ (a' := ?_) ?_ ?_
                    rotate_left
                    · show Act.put _ (some 90) _ = _
                      simp only [Act.put, List.setIfInBounds_toArray, List.set_cons_zero, List.set_cons_succ]
                      rfl
                    refine pu_ 24 (some 66) (bm 29 33554431) ?_
                    refine pu_ 25 (some 91) (bm 29 67108863) ?_
                    refine pu_ 26 (some 92) (bm 29 134217727) ?_
                    refine pu_ 27 (some 8) (bm 29 268435455) ?_
                    refine pu_ 28 (some 9) (bm 29 536870911) ?_
                    refine done_ (by kernel_rfl) ?_
                    go_wp2
                    go_ret2
                    exact WoC.yes (WoStep.same hC5) ((h.out.below hC5).setL hownl.out hL' hS') HF.out
                  · have HF := hd_ (HM.out.trans (if_neg k8))
                    have q8 : (ri == 0) = false := by simp [k8]
                    clear HM
                    go_enter Tryz.func53, Tryz.ntmps53
                    go_wp2
                    refine start_ (n := 47) (S := (fun W_ => Below w.heap.size w W_ ∧ W_.heap[w.heap.size]? = some (.cells #[.int .i64 f0, .int .i64 f1, .int .i64 f2, .int .i64 f3, .int .i64 f4, .string f5] 39 (0, 0)))) (ds := []) (bm 47 0) (by kernel_rfl) rfl (by kernel_rfl) ⟨below_drew (hb _), blk_new w _⟩ (fun hHeld => ?_)
                    refine pu_ 0 (some 11) (bm 47 1) ?_
                    refine pu_ 1 (some 12) (bm 47 3) ?_
                    refine one_ (i := 2) (N := (some 13)) (bm 47 7) rfl rfl (by kernel_rfl) (by decide) (fun K hK => ?_)
                    refine goes_ Tryz.func83 (by kernel_rfl) rfl #[.pointer (some ⟨Wb, 0, none⟩), .int .i64 node] (by rfl) rfl rfl (by try simp only [List.map_toArray, List.map_cons, List.map_nil]; first | done | rfl) ?_
                    refine (hth _ hHeld.1).mono ?_
                    rintro e w1 ⟨rfl, hB1⟩
                    refine ⟨_, rfl, ?_⟩
                    refine hK.out _ _ ⟨below_then hHeld.1 hHeld.1.size hB1, blk_below hHeld.2 hB1⟩ (fun hHeld => ?_)
                    clear hK K
                    refine norm_ (a' := ?_) ?_ ?_
                    rotate_left
                    · show Act.put _ (some 13) _ = _
                      simp only [Act.put, List.setIfInBounds_toArray, List.set_cons_zero, List.set_cons_succ]
                      rfl
                    refine pu_ 3 (some 14) (bm 47 15) ?_
                    refine pu_ 4 (some 15) (bm 47 31) ?_
                    refine pu_ 5 (some 16) (bm 47 63) ?_
                    refine ta_ 6 (some 17) (bm 47 127) hHeld (fun _ hSw => (blk_cell hSw.2 2).trans rfl) ?_
                    refine pu_ 7 (some 18) (bm 47 255) ?_ (hy := by intro w'; go_simp; (try simp only [p2]); with_reducible rfl)
                    refine pu_ 8 (some 19) (bm 47 511) ?_
                    refine pu_ 9 (some 20) (bm 47 1023) ?_
                    refine pu_ 10 (some 21) (bm 47 2047) ?_
                    refine ta_ 11 (some 22) (bm 47 4095) hHeld (fun _ hSw => (blk_cell hSw.2 2).trans rfl) ?_
                    refine pu_ 12 (some 23) (bm 47 8191) ?_
                    refine pu_ 13 (some 24) (bm 47 16383) ?_
                    refine pu_ 14 (some 25) (bm 47 32767) ?_
                    refine ta_ 15 (some 26) (bm 47 65535) hHeld (fun _ hSw => (blk_cell (blk_below hWb hSw.1) 3).trans rfl) ?_
                    refine pu_ 16 (some 27) (bm 47 131071) ?_ (hy := by intro w'; go_simp; (try simp only [p3]); with_reducible rfl)
                    refine pu_ 17 (some 28) (bm 47 262143) ?_
                    refine pu_ 18 (some 29) (bm 47 524287) ?_
                    refine pu_ 19 (some 30) (bm 47 1048575) ?_
                    refine ta_ 20 (some 31) (bm 47 2097151) hHeld (fun _ hSw => (blk_cell hSw.2 3).trans rfl) ?_
                    refine one_ (i := 21) (N := (some 32)) (bm 47 4194303) rfl rfl (by kernel_rfl) (by decide) (fun K hK => ?_)
                    refine goes_ Tryz.func84 (by kernel_rfl) rfl #[.int .i64 f3] (by rfl) rfl rfl (by try simp only [List.map_toArray, List.map_cons, List.map_nil]; first | done | rfl) ?_
                    refine (hbi _).mono ?_
                    rintro e w' ⟨rfl, hw⟩
                    obtain rfl := hw.symm
                    refine ⟨_, rfl, ?_⟩
                    refine hK.out _ _ hHeld (fun hHeld => ?_)
                    clear hK K
                    refine norm_ (a' := ?_) ?_ ?_
                    rotate_left
                    · show Act.put _ (some 32) _ = _
                      simp only [Act.put, List.setIfInBounds_toArray, List.set_cons_zero, List.set_cons_succ]
                      rfl
                    refine pu_ 22 (some 33) (bm 47 8388607) ?_
                    refine pu_ 23 (some 34) (bm 47 16777215) ?_
                    refine pu_ 24 (some 35) (bm 47 33554431) ?_
                    refine pu_ 25 (some 36) (bm 47 67108863) ?_
                    refine ta_ 26 (some 37) (bm 47 134217727) hHeld (fun _ hSw => (blk_cell hSw.2 4).trans rfl) ?_
                    refine pu_ 27 (some 38) (bm 47 268435455) ?_ (hy := by intro w'; go_simp; (try simp only [p5]); with_reducible rfl)
                    refine pu_ 28 (some 39) (bm 47 536870911) ?_
                    refine pu_ 29 (some 40) (bm 47 1073741823) ?_
                    refine pu_ 30 (some 41) (bm 47 2147483647) ?_
                    refine ta_ 31 (some 42) (bm 47 4294967295) hHeld (fun _ hSw => (blk_cell hSw.2 4).trans rfl) ?_
                    refine pu_ 32 (some 43) (bm 47 8589934591) ?_
                    refine pu_ 33 (some 44) (bm 47 17179869183) ?_
                    refine pu_ 34 (some 45) (bm 47 34359738367) ?_
                    refine pu_ 35 (some 46) (bm 47 68719476735) ?_
                    refine ta_ 36 (some 47) (bm 47 137438953471) hHeld (fun _ hSw => (blk_cell (blk_below hWb hSw.1) 2).trans rfl) ?_
                    refine one_ (i := 37) (N := (some 48)) (bm 47 274877906943) rfl rfl (by kernel_rfl) (by decide) (fun K hK => ?_)
                    refine goes_ Tryz.func80 (by kernel_rfl) rfl #[.pointer (some ⟨B, 0, none⟩)] (by rfl) rfl rfl (by try simp only [List.map_toArray, List.map_cons, List.map_nil]; first | done | rfl) ?_
                    refine (hbl _ hHeld.1).mono ?_
                    rintro e w' ⟨rfl, hw⟩
                    obtain rfl := hw.symm
                    refine ⟨_, rfl, ?_⟩
                    refine hK.out _ _ hHeld (fun hHeld => ?_)
                    clear hK K
                    refine norm_ (a' := ?_) ?_ ?_
                    rotate_left
                    · show Act.put _ (some 48) _ = _
                      simp only [Act.put, List.setIfInBounds_toArray, List.set_cons_zero, List.set_cons_succ]
                      rfl
                    refine pu_ 38 (some 49) (bm 47 549755813887) ?_ (hy := by intro w'; go_simp; (try simp only [p6]); with_reducible rfl)
                    refine pu_ 39 (some 50) (bm 47 1099511627775) ?_
                    refine pu_ 40 (some 51) (bm 47 2199023255551) ?_
                    refine pu_ 41 (some 52) (bm 47 4398046511103) ?_
                    refine ta_ 42 (some 53) (bm 47 8796093022207) hHeld (fun _ hSw => (blk_cell hSw.2 5).trans rfl) ?_
                    refine one_ (i := 43) (N := (some 54)) (bm 47 17592186044415) rfl rfl (by kernel_rfl) (by decide) (fun K hK => ?_)
                    refine goes_ Tryz.func38 (by kernel_rfl) rfl #[.string f5] (by rfl) rfl rfl (by try simp only [List.map_toArray, List.map_cons, List.map_nil]; first | done | rfl) ?_
                    refine (hri _).mono ?_
                    rintro e w1 ⟨rfl, hB1⟩
                    refine ⟨_, rfl, ?_⟩
                    refine hK.out _ _ ⟨below_then hHeld.1 hHeld.1.size hB1, blk_below hHeld.2 hB1⟩ (fun hHeld => ?_)
                    clear hK K
                    refine norm_ (a' := ?_) ?_ ?_
                    rotate_left
                    · show Act.put _ (some 54) _ = _
                      simp only [Act.put, List.setIfInBounds_toArray, List.set_cons_zero, List.set_cons_succ]
                      rfl
                    refine pu_ 44 (some 55) (bm 47 35184372088831) ?_
                    refine pu_ 45 (some 56) (bm 47 70368744177663) ?_
                    refine pu_ 46 (some 10) (bm 47 140737488355327) ?_
                    refine done_ (by kernel_rfl) ?_
                    go_wp2
                    refine start_ (n := 9) (S := (fun W_ => Below w.heap.size w W_ ∧ W_.heap[w.heap.size]? = some (.cells #[.int .i64 f0, .int .i64 f1, .int .i64 f2, .int .i64 f3, .int .i64 f4, .string f5] 39 (0, 0)))) (ds := []) (bm 9 0) (by kernel_rfl) rfl (by kernel_rfl) ⟨below_then hHeld.1 hHeld.1.size (below_drew (Below.refl _ _)), hHeld.2⟩ (fun hHeld => ?_)
                    refine pu_ 0 (some 58) (bm 9 1) ?_
                    refine pu_ 1 (some 59) (bm 9 3) ?_
                    refine pu_ 2 (some 60) (bm 9 7) ?_
                    refine pu_ 3 (some 61) (bm 9 15) ?_
                    refine ta_ 4 (some 62) (bm 9 31) hHeld (fun _ hSw => (blk_cell (blk_below hWb hSw.1) 2).trans rfl) ?_
                    refine pu_ 5 (some 63) (bm 9 63) ?_
                    refine ta_ 6 (some 64) (bm 9 127) hHeld (fun _ hSw => (blk_cell hSw.2 4).trans rfl) ?_
                    refine one_ (i := 7) (N := (some 65)) (bm 9 255) rfl rfl (by kernel_rfl) (by decide) (fun K hK => ?_)
                    refine goes_ Tryz.func77 (by kernel_rfl) rfl #[.pointer (some ⟨B, 0, none⟩), .int .i64 f4] (by rfl) rfl rfl (by try simp only [List.map_toArray, List.map_cons, List.map_nil]; first | done | rfl) ?_
                    refine (hgi _ hHeld.1).mono ?_
                    rintro e w' ⟨rfl, hw⟩
                    obtain rfl := hw.symm
                    refine ⟨_, rfl, ?_⟩
                    refine hK.out _ _ hHeld (fun hHeld => ?_)
                    clear hK K
                    refine norm_ (a' := ?_) ?_ ?_
                    rotate_left
                    · show Act.put _ (some 65) _ = _
                      simp only [Act.put, List.setIfInBounds_toArray, List.set_cons_zero, List.set_cons_succ]
                      rfl
                    refine pu_ 8 (some 57) (bm 9 511) ?_
                    refine done_ (by kernel_rfl) ?_
                    go_wp2
                    refine start_ (n := 29) (S := (fun W_ => Below w.heap.size w W_ ∧ W_.heap[w.heap.size]? = some (.cells #[.int .i64 f0, .int .i64 f1, .int .i64 f2, .int .i64 f3, .int .i64 f4, .string f5] 39 (0, 0)))) (ds := [23]) (bm 29 0) (by kernel_rfl) rfl (by kernel_rfl) ⟨below_then hHeld.1 hHeld.1.size (below_drew (Below.refl _ _)), hHeld.2⟩ (fun hHeld => ?_)
                    refine pu_ 0 (some 67) (bm 29 1) ?_
                    refine pu_ 1 (some 68) (bm 29 3) ?_
                    refine pu_ 2 (some 69) (bm 29 7) ?_
                    refine pu_ 3 (some 70) (bm 29 15) ?_
                    refine ta_ 4 (some 71) (bm 29 31) hHeld (fun _ hSw => (blk_cell (blk_below hWb hSw.1) 1).trans rfl) ?_
                    refine pu_ 5 (some 72) (bm 29 63) ?_
                    refine pu_ 6 (some 73) (bm 29 127) ?_
                    refine ta_ 7 (some 74) (bm 29 255) hHeld (fun _ hSw => (blk_cell hSw.2 5).trans rfl) ?_
                    refine pu_ 8 (some 75) (bm 29 511) ?_
                    refine ta_ 9 (some 76) (bm 29 1023) hHeld (fun _ hSw => (blk_cell hSw.2 2).trans rfl) ?_
                    refine pu_ 10 (some 77) (bm 29 2047) ?_
                    refine ta_ 11 (some 78) (bm 29 4095) hHeld (fun _ hSw => (blk_cell hSw.2 3).trans rfl) ?_
                    refine pu_ 13 (some 80) (bm 29 12287) ?_
                    refine ta_ 14 (some 81) (bm 29 28671) hHeld (fun _ hSw => (blk_cell hSw.2 3).trans rfl) ?_
                    refine pu_ 16 (some 83) (bm 29 94207) ?_
                    refine ta_ 17 (some 84) (bm 29 225279) hHeld (fun _ hSw => (blk_cell hSw.2 3).trans rfl) ?_
                    refine pu_ 19 (some 86) (bm 29 749567) ?_
                    refine ta_ 20 (some 87) (bm 29 1798143) hHeld (fun _ hSw => (blk_cell hSw.2 4).trans rfl) ?_
                    refine one_ (i := 12) (N := (some 79)) (bm 29 1802239) rfl rfl (by kernel_rfl) (by decide) (fun K hK => ?_)
                    refine goes_ Tryz.func86 (by kernel_rfl) rfl #[.int .i64 f3, .int .i64 1] (by rfl) rfl rfl (by try simp only [List.map_toArray, List.map_cons, List.map_nil]; first | done | rfl) ?_
                    refine (has_any f3 1 (by decide) hbt.out _).mono ?_
                    rintro e w' ⟨rfl, hw⟩
                    obtain rfl := hw.symm
                    refine ⟨_, rfl, ?_⟩
                    refine hK.out _ _ hHeld (fun hHeld => ?_)
                    clear hK K
                    refine norm_ (a' := ?_) ?_ ?_
                    rotate_left
                    · show Act.put _ (some 79) _ = _
                      simp only [Act.put, List.setIfInBounds_toArray, List.set_cons_zero, List.set_cons_succ]
                      rfl
                    refine one_ (i := 15) (N := (some 82)) (bm 29 1835007) rfl rfl (by kernel_rfl) (by decide) (fun K hK => ?_)
                    refine goes_ Tryz.func86 (by kernel_rfl) rfl #[.int .i64 f3, .int .i64 2] (by rfl) rfl rfl (by try simp only [List.map_toArray, List.map_cons, List.map_nil]; first | done | rfl) ?_
                    refine (has_any f3 2 (by decide) hbt.out _).mono ?_
                    rintro e w' ⟨rfl, hw⟩
                    obtain rfl := hw.symm
                    refine ⟨_, rfl, ?_⟩
                    refine hK.out _ _ hHeld (fun hHeld => ?_)
                    clear hK K
                    refine norm_ (a' := ?_) ?_ ?_
                    rotate_left
                    · show Act.put _ (some 82) _ = _
                      simp only [Act.put, List.setIfInBounds_toArray, List.set_cons_zero, List.set_cons_succ]
                      rfl
                    refine one_ (i := 18) (N := (some 85)) (bm 29 2097151) rfl rfl (by kernel_rfl) (by decide) (fun K hK => ?_)
                    refine goes_ Tryz.func86 (by kernel_rfl) rfl #[.int .i64 f3, .int .i64 4] (by rfl) rfl rfl (by try simp only [List.map_toArray, List.map_cons, List.map_nil]; first | done | rfl) ?_
                    refine (has_any f3 4 (by decide) hbt.out _).mono ?_
                    rintro e w' ⟨rfl, hw⟩
                    obtain rfl := hw.symm
                    refine ⟨_, rfl, ?_⟩
                    refine hK.out _ _ hHeld (fun hHeld => ?_)
                    clear hK K
                    refine norm_ (a' := ?_) ?_ ?_
                    rotate_left
                    · show Act.put _ (some 85) _ = _
                      simp only [Act.put, List.setIfInBounds_toArray, List.set_cons_zero, List.set_cons_succ]
                      rfl
                    refine pu_ 21 (some 88) (bm 29 4194303) ?_
                    refine pu_ 22 (some 89) (bm 29 8388607) ?_
                    refine last_ (i := 23) (N := (some 90)) (bm 29 16777215) rfl rfl (by kernel_rfl) (by decide) (fun K hK => ?_)
                    refine goes_ Tryz.func85 (by kernel_rfl) rfl #[.pointer (some ⟨L, 0, none⟩), .int .i64 node, .agg #[.int .i64 0, .string f5, .int .i64 f2, .bool (hasB f3 1), .bool (hasB f3 2), .bool (hasB f3 4), .int .i64 f4, .bool false]] (by rfl) rfl rfl (by try simp only [List.map_toArray, List.map_cons, List.map_nil]; first | done | rfl) ?_
                    have hC5 := hHeld.1
                    have hX5 := hHeld.2
                    refine (hadd _ hC5).mono ?_
                    rintro e w5 ⟨rfl, own', ps', hL', hS'⟩
                    refine ⟨_, rfl, ?_⟩
                    refine hK.out _ _ ?_
                    clear hK K
                    refine norm_ (a' := ?_) ?_ ?_
                    rotate_left
                    · show Act.put _ (some 90) _ = _
                      simp only [Act.put, List.setIfInBounds_toArray, List.set_cons_zero, List.set_cons_succ]
                      rfl
                    refine pu_ 24 (some 66) (bm 29 33554431) ?_
                    refine pu_ 25 (some 91) (bm 29 67108863) ?_
                    refine pu_ 26 (some 92) (bm 29 134217727) ?_
                    refine pu_ 27 (some 8) (bm 29 268435455) ?_
                    refine pu_ 28 (some 9) (bm 29 536870911) ?_
                    refine done_ (by kernel_rfl) ?_
                    obtain ⟨h2, s2⟩ := (h.out.below hC5).setL hownl.out hL' hS'
                    obtain ⟨own2, sl2, hB2, hsl2, hown2⟩ := h2.bo
                    obtain ⟨v2, hWb2⟩ := h2.wb
                    have ht2 := (hT.out.sl hsl2).1
                    have hX6 := hS'.ste.blk hX5 (fun e => by have := (h.out.lo w.heap.size (by rw [hownl.out _ e]; decide)).2; omega)
                    have HG := hd_ (show (addF sl2 f4 ri).map SigS.abs = addG st.sg f4 ri by rw [addF_abs, hsl2])
                    replace h2 := hd_ h2
                    replace s2 := hd_ s2
                    replace hown2 := hd_ hown2
                    clear hsl2
                    go_wp2
                    refine start_ (n := 9) (S := (fun W_ => W_.heap[Wb]? = some (.cells #[.pointer (some ⟨F, 0, none⟩), .pointer (some ⟨L, 0, none⟩), .pointer (some ⟨B, 0, none⟩), .int .i64 calls, v2] 64 (0, 0)) ∧ W_.heap[w.heap.size]? = some (.cells #[.int .i64 f0, .int .i64 f1, .int .i64 f2, .int .i64 f3, .int .i64 f4, .string f5] 39 (0, 0)))) (ds := [8]) (bm 9 0) (by kernel_rfl) rfl (by kernel_rfl) ⟨hWb2, hX6⟩ (fun hHeld => ?_)
                    refine pu_ 0 (some 95) (bm 9 1) ?_
                    refine pu_ 1 (some 96) (bm 9 3) ?_
                    refine pu_ 2 (some 97) (bm 9 7) ?_
                    refine pu_ 3 (some 98) (bm 9 15) ?_
                    refine ta_ 4 (some 99) (bm 9 31) hHeld (fun _ hSw => (blk_cell hSw.1 2).trans rfl) ?_
                    refine pu_ 5 (some 100) (bm 9 63) ?_
                    refine ta_ 6 (some 101) (bm 9 127) hHeld (fun _ hSw => (blk_cell hSw.2 4).trans rfl) ?_
                    refine pu_ 7 (some 102) (bm 9 255) ?_
                    refine last_ (i := 8) (N := (some 103)) (bm 9 511) rfl rfl (by kernel_rfl) (by decide) (fun K hK => ?_)
                    refine goes_ Tryz.func87 (by kernel_rfl) rfl #[.pointer (some ⟨B, 0, none⟩), .int .i64 f4, .int .i64 ri] (by rfl) rfl rfl (by try simp only [List.map_toArray, List.map_cons, List.map_nil]; first | done | rfl) ?_
                    refine (badd_any own2 w0 _ B f4 ri sl2 (hB2.below (below_drew (Below.refl _ _))) ht2).mono ?_
                    rintro e w7 ⟨rb, own3, rfl, hB3, hS3⟩
                    refine ⟨_, rfl, ?_⟩
                    refine hK.out _ _ ?_
                    clear hK K
                    refine norm_ (a' := ?_) ?_ ?_
                    rotate_left
                    · show Act.put _ (some 103) _ = _
                      simp only [Act.put, List.setIfInBounds_toArray, List.set_cons_zero, List.set_cons_succ]
                      rfl
                    refine done_ (by kernel_rfl) ?_
                    go_wp2
                    go_ret2
                    have h3 := (h2.out.below (below_drew (Below.refl _ _))).setB hown2.out hB3 hS3
                    rw [HG.out] at h3
                    exact WoC.yes (((WoStep.same hC5).trans s2.out).trans (WoStep.same (below_drew (Below.refl _ _)))) h3 HF.out
end Go.Proofs.YtgopddjmmoohdaaGreatDoor
