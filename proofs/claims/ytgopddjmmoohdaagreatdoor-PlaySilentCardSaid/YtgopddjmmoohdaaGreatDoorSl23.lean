/- The texts of this seat, joined: part 23 of 25. -/
import Derived.Test.YtgopddjmmoohdaaGreatDoorSl22
import Derived.Test.YtgopddjmmoohdaaGreatDoorSl01
import Derived.Test.YtgopddjmmoohdaaGreatDoorSl14
import Derived.Deep.MidRow
/- world: Do; New, Forest, Lists, Events. -/
set_option linter.unusedSimpArgs false
set_option linter.unusedVariables false
set_option maxRecDepth 100000
set_option maxHeartbeats 3200000
namespace Go.Proofs.YtgopddjmmoohdaaGreatDoor
open Go.RowKit Go.Proofs.YtgopddjmmoohdaaGreatDoorW.PrintWords Go.Proofs.YtgopddjmmoohdaaGreatDoorW.PrintLast Go.Proofs.YtgopddjmmoohdaaGreatDoor.PPlaySilent

theorem do_op {cl : Nat → Nat} {w0 w : World} {Wb F L B calls : Nat} {st : St} (h : WoC cl w0 w Wb F L B calls st) (hO : LayO w) (hT : SgOk st.sg) (x : S39) (ctx : Int) :
    Calls Tryz.prog 28 #[.pointer (some ⟨Wb, 0, none⟩), opV x, .int .i64 ctx] w (WoPost cl w0 w Wb F L B calls (doW calls st x ctx)) := by
  obtain ⟨f0, f1, f2, f3, f4, f5⟩ := x
  cases hr : rightO ⟨f0, f1, f2, f3, f4, f5⟩ with
  | false =>
    have hb := fun X => below_alloc (Below.refl w.heap.size w) X
    have hri := fun W (hW : Below w.heap.size w W) => oright_any ⟨f0, f1, f2, f3, f4, f5⟩ W (hO.below hW)
    rw [hr] at hri
    have HF := hd_ (show doW calls st ⟨f0, f1, f2, f3, f4, f5⟩ ctx = (st, 0, 7) from if_pos hr)
    have hno := hd_ (fun W hB => h.no (W := W) HF.out hB)
    generalize doW calls st ⟨f0, f1, f2, f3, f4, f5⟩ ctx = dr at *
    simp only [opV] at hri ⊢
    clear hr hO hT h
    go_enter Tryz.func28, Tryz.ntmps28
    go_wp2_with (go_at_call 27; (with_reducible refine (hri _ (hb _)).mono ?_); rintro e w1 ⟨rfl, hB1⟩; have hC1 := below_then (hb _) (hb _).size hB1)
    go_ret2
    exact hno.out _ hC1
  | true =>
    have ht : there f0 = true := by simp only [rightO, Bool.and_eq_true] at hr; exact hr.1
    have hc : f0 = 1 ∨ f0 = 2 ∨ f0 = 3 ∨ f0 = 4 ∨ f0 = 5 ∨ f0 = 6 ∨ f0 = 7 ∨ f0 = 8 ∨ f0 = 9 ∨ f0 = 10 ∨ f0 = 11 ∨ f0 = 12 ∨ f0 = 13 ∨ f0 = 14 ∨ f0 = 15 ∨ f0 = 16 ∨ f0 = 17 := by simp [there] at ht; omega
    rcases hc with rfl | rfl | rfl | rfl | rfl | rfl | rfl | rfl | rfl | rfl | rfl | rfl | rfl | rfl | rfl | rfl | rfl
    · exact dop1_any h hO hT f1 f2 f3 f4 f5 ctx hr
    · exact dop2_any h hO hT f1 f2 f3 f4 f5 ctx hr
    · exact dop3_any h hO hT f1 f2 f3 f4 f5 ctx hr
    · exact dop4_any h hO hT f1 f2 f3 f4 f5 ctx hr
    · exact dop5_any h hO hT f1 f2 f3 f4 f5 ctx hr
    · exact dop6_any h hO hT f1 f2 f3 f4 f5 ctx hr
    · exact dop7_any h hO hT f1 f2 f3 f4 f5 ctx hr
    · exact dop8_any h hO hT f1 f2 f3 f4 f5 ctx hr
    · exact dop9_any h hO hT f1 f2 f3 f4 f5 ctx hr
    · exact dop10_any h hO hT f1 f2 f3 f4 f5 ctx hr
    · exact dop11_any h hO hT f1 f2 f3 f4 f5 ctx hr
    · exact dop12_any h hO hT f1 f2 f3 f4 f5 ctx hr
    · exact dop13_any h hO hT f1 f2 f3 f4 f5 ctx hr
    · exact dop14_any h hO hT f1 f2 f3 f4 f5 ctx hr
    · exact dop15_any h hO hT f1 f2 f3 f4 f5 ctx hr
    · exact dop16_any h hO hT f1 f2 f3 f4 f5 ctx hr
    · exact dop17_any h hO hT f1 f2 f3 f4 f5 ctx hr
end Go.Proofs.YtgopddjmmoohdaaGreatDoor

/- world: New. -/
set_option linter.unusedSimpArgs false
set_option linter.unusedVariables false
set_option maxRecDepth 100000
set_option maxHeartbeats 3200000
namespace Go.Proofs.YtgopddjmmoohdaaGreatDoor
open Go.RowKit Go.Proofs.YtgopddjmmoohdaaGreatDoorW.PrintWords Go.Proofs.YtgopddjmmoohdaaGreatDoorW.PrintLast Go.Proofs.YtgopddjmmoohdaaGreatDoor.PPlaySilent

theorem anew_any (w : World) : Calls Tryz.prog 18 #[] w fun e w' => e = .returned (.pointer (some ⟨w.heap.size, 0, none⟩)) ∧ w' = w.alloc (.cells #[.slice none 0 0] 77) := by
  go_enter Tryz.func18, Tryz.ntmps18
  go_wp2
  go_ret
  exact ⟨rfl, rfl⟩
theorem lnew_any (w : World) : Calls Tryz.prog 19 #[] w fun e w' => e = .returned (.pointer (some ⟨w.heap.size, 0, none⟩)) ∧ w' = w.alloc (.cells #[.pointer none, .slice none 0 0, .map none] 82) := by
  go_enter Tryz.func19, Tryz.ntmps19
  go_wp2
  go_ret
  exact ⟨rfl, rfl⟩
theorem bnew_any (w : World) : Calls Tryz.prog 20 #[] w fun e w' => e = .returned (.pointer (some ⟨w.heap.size, 0, none⟩)) ∧ w' = w.alloc (.cells #[.slice none 0 0] 85) := by
  go_enter Tryz.func20, Tryz.ntmps20
  go_wp2
  go_ret
  exact ⟨rfl, rfl⟩
def clNew (F L B Wb k : Nat) : Nat := if k = F then 1 else if k = L then 2 else if k = B then 3 else if k = Wb then 5 else 0
theorem WoC.start {w W : World} {F L B Wb : Nat} (calls : Nat) (hB : Below w.heap.size w W) (hF : W.heap[F]? = some (.cells #[.slice none 0 0] 77 (0, 0))) (hL : W.heap[L]? = some (.cells #[.pointer none, .slice none 0 0, .map none] 82 (0, 0))) (hb : W.heap[B]? = some (.cells #[.slice none 0 0] 85 (0, 0))) (hW : W.heap[Wb]? = some (.cells #[.pointer (some ⟨F, 0, none⟩), .pointer (some ⟨L, 0, none⟩), .pointer (some ⟨B, 0, none⟩), .int .i64 calls, .slice none 0 0] 64 (0, 0)))
    (h1 : w.heap.size ≤ F) (h2 : w.heap.size ≤ L) (h3 : w.heap.size ≤ B) (h4 : w.heap.size ≤ Wb) : WoC (clNew F L B Wb) w W Wb F L B calls ⟨[], [], [], []⟩ := by
  have e12 : L ≠ F := fun e => by rw [e, hF] at hL; cases hL
  have e13 : B ≠ F := fun e => by rw [e, hF] at hb; cases hb
  have e14 : Wb ≠ F := fun e => by rw [e, hF] at hW; cases hW
  have e23 : B ≠ L := fun e => by rw [e, hL] at hb; cases hb
  have e24 : Wb ≠ L := fun e => by rw [e, hL] at hW; cases hW
  have e34 : Wb ≠ B := fun e => by rw [e, hb] at hW; cases hW
  have l1 := blk_lt hF
  have l2 := blk_lt hL
  have l3 := blk_lt hb
  have l4 := blk_lt hW
  have c1 : clNew F L B Wb F = 1 := if_pos rfl
  have c2 : clNew F L B Wb L = 2 := (if_neg e12).trans (if_pos rfl)
  have c3 : clNew F L B Wb B = 3 := (if_neg e13).trans ((if_neg e23).trans (if_pos rfl))
  have c5 : clNew F L B Wb Wb = 5 := (if_neg e14).trans ((if_neg e24).trans ((if_neg e34).trans (if_pos rfl)))
  have lo : ∀ k, clNew F L B Wb k ≠ 0 → w.heap.size ≤ k ∧ k < W.heap.size := fun k hk => by
    unfold clNew at hk
    repeat' split at hk
    all_goals first | (subst_vars; omega) | exact absurd rfl hk
  have o1 : ∀ (m k : Nat), (if k = m then 1 else 0) ≠ 0 → k = m := fun m k hk => by
    split at hk
    · assumption
    · exact absurd rfl hk
  refine ⟨lo, hB, c5, ⟨c1, fun k hk => lo k (by rw [hk]; decide), h1, l1, Nat.zero_le _, ⟨hB, fun k hk => hk.elim (fun hk => (lo k (by rw [hk]; decide)).1) (fun hk => Nat.le_trans hB.size hk), fun k hk => .inr hk, Nat.le_refl _, fun _ _ _ _ => rfl⟩, _, hF, Kd.N_nil _ _ _ _ _⟩, WF8.nil, ⟨fun k => if k = L then 1 else 0, [], ⟨if_pos rfl, fun k hk => ?_, hB, Nat.zero_le _, rfl, fun s hs => (by cases hs), ⟨_, _, _, hL, Kd.R_nil _ _ _ _ _, .inl ⟨rfl, rfl, rfl⟩⟩, fun i s hi => by simp at hi⟩, fun k hk => ?_⟩, ⟨fun k => if k = B then 1 else 0, [], ⟨if_pos rfl, fun k hk => ?_, hB, Nat.zero_le _, ⟨_, hb, Kd.R_nil _ _ _ _ _⟩, fun i s hi => by simp at hi⟩, rfl, fun k hk => ?_⟩, ⟨fun _ => 0, _, [], hW, ⟨fun k hk => absurd rfl hk, Nat.zero_le _, rfl, Kd.R_nil _ _ _ _ _, fun i e hi => by simp at hi⟩, fun k hk => absurd rfl hk⟩⟩
  · rw [o1 _ _ hk]; exact ⟨h2, l2⟩
  · rw [o1 _ _ hk]; exact c2
  · rw [o1 _ _ hk]; exact ⟨h3, l3⟩
  · rw [o1 _ _ hk]; exact c3
theorem wnew_any (Am Ac : Option Addr) (nm cm nc cc : Nat) (w : World) : Calls Tryz.prog 14 #[.agg #[.slice Am nm cm, .slice Ac nc cc]] w fun e w' => ∃ Wb F L B cl, e = .returned (.pointer (some ⟨Wb, 0, none⟩)) ∧ WoC cl w w' Wb F L B nc ⟨[], [], [], []⟩ := by
  go_enter Tryz.func14, Tryz.ntmps14
  go_wp2
  refine start_ (n := 10) (S := (fun W_ => W_.heap[w.heap.size]? = some (.cells #[.slice Am nm cm, .slice Ac nc cc] 25 (0, 0)))) (ds := []) (bm 10 0) (by kernel_rfl) rfl (by kernel_rfl) (blk_new w _) (fun hHeld => ?_)
  refine pu_ 4 (some 7) (bm 10 16) ?_
  refine ta_ 5 (some 8) (bm 10 48) hHeld (fun _ hSw => (blk_cell hSw 1).trans rfl) ?_
  refine pu_ 6 (some 9) (bm 10 112) ?_
  refine one_ (i := 0) (N := (some 3)) (bm 10 113) rfl rfl (by kernel_rfl) (by decide) (fun K hK => ?_)
  refine goes_ Tryz.func18 (by kernel_rfl) rfl #[] (by rfl) rfl rfl (by try simp only [List.map_toArray, List.map_cons, List.map_nil]; first | done | rfl) ?_
  refine (anew_any _).mono ?_
  rintro e w' ⟨rfl, hw⟩
  obtain rfl := hw.symm
  refine ⟨_, rfl, ?_⟩
  refine hK.out _ _ (alloc_at hHeld _) (fun hHeld => ?_)
  clear hK K
  refine norm_ (a' := ?_) ?_ ?_
  rotate_left
  · show Act.put _ (some 3) _ = _
    simp only [Act.put, List.setIfInBounds_toArray, List.set_cons_zero, List.set_cons_succ]
    rfl
  refine one_ (i := 1) (N := (some 4)) (bm 10 115) rfl rfl (by kernel_rfl) (by decide) (fun K hK => ?_)
  refine goes_ Tryz.func19 (by kernel_rfl) rfl #[] (by rfl) rfl rfl (by try simp only [List.map_toArray, List.map_cons, List.map_nil]; first | done | rfl) ?_
  refine (lnew_any _).mono ?_
  rintro e w' ⟨rfl, hw⟩
  obtain rfl := hw.symm
  refine ⟨_, rfl, ?_⟩
  refine hK.out _ _ (alloc_at hHeld _) (fun hHeld => ?_)
  clear hK K
  refine norm_ (a' := ?_) ?_ ?_
  rotate_left
  · show Act.put _ (some 4) _ = _
    simp only [Act.put, List.setIfInBounds_toArray, List.set_cons_zero, List.set_cons_succ]
    rfl
  refine one_ (i := 2) (N := (some 5)) (bm 10 119) rfl rfl (by kernel_rfl) (by decide) (fun K hK => ?_)
  refine goes_ Tryz.func20 (by kernel_rfl) rfl #[] (by rfl) rfl rfl (by try simp only [List.map_toArray, List.map_cons, List.map_nil]; first | done | rfl) ?_
  refine (bnew_any _).mono ?_
  rintro e w' ⟨rfl, hw⟩
  obtain rfl := hw.symm
  refine ⟨_, rfl, ?_⟩
  refine hK.out _ _ (alloc_at hHeld _) (fun hHeld => ?_)
  clear hK K
  refine norm_ (a' := ?_) ?_ ?_
  rotate_left
  · show Act.put _ (some 5) _ = _
    simp only [Act.put, List.setIfInBounds_toArray, List.set_cons_zero, List.set_cons_succ]
    rfl
  refine pu_ 3 (some 6) (bm 10 127) ?_
  refine pu_ 7 (some 10) (bm 10 255) ?_
  refine one_ (i := 8) (N := (some 11)) (bm 10 511) rfl rfl (by kernel_rfl) (by decide) (fun K hK => ?_)
  refine value_ (w1 := ((((w.alloc (.cells #[.slice Am nm cm, .slice Ac nc cc] 25)).drew.alloc (.cells #[.slice none 0 0] 77)).alloc (.cells #[.pointer none, .slice none 0 0, .map none] 82)).alloc (.cells #[.slice none 0 0] 85)).alloc (.cells #[.pointer (some ⟨(w.alloc (.cells #[.slice Am nm cm, .slice Ac nc cc] 25)).drew.heap.size, 0, none⟩), .pointer (some ⟨((w.alloc (.cells #[.slice Am nm cm, .slice Ac nc cc] 25)).drew.alloc (.cells #[.slice none 0 0] 77)).heap.size, 0, none⟩), .pointer (some ⟨(((w.alloc (.cells #[.slice Am nm cm, .slice Ac nc cc] 25)).drew.alloc (.cells #[.slice none 0 0] 77)).alloc (.cells #[.pointer none, .slice none 0 0, .map none] 82)).heap.size, 0, none⟩), .int .i64 nc, .slice none 0 0] 64)) (v := .pointer (some ⟨((((w.alloc (.cells #[.slice Am nm cm, .slice Ac nc cc] 25)).drew.alloc (.cells #[.slice none 0 0] 77)).alloc (.cells #[.pointer none, .slice none 0 0, .map none] 82)).alloc (.cells #[.slice none 0 0] 85)).heap.size, 0, none⟩)) (by rfl) rfl ?_ ?_
  · go_simp
  refine hK.out _ _ (alloc_at hHeld _) (fun hHeld => ?_)
  clear hK K
  refine norm_ (a' := ?_) ?_ ?_
  rotate_left
  · show Act.put _ (some 11) _ = _
    simp only [Act.put, List.setIfInBounds_toArray, List.set_cons_zero, List.set_cons_succ]
    rfl
  refine pu_ 9 (some 2) (bm 10 1023) ?_
  refine done_ (by kernel_rfl) ?_
  go_wp2
  go_ret
  have b0 : Below w.heap.size w (w.alloc (.cells #[.slice Am nm cm, .slice Ac nc cc] 25)) := below_alloc (Below.refl _ _) _
  have b1 : Below w.heap.size w ((w.alloc (.cells #[.slice Am nm cm, .slice Ac nc cc] 25)).alloc (.cells #[.slice none 0 0] 77)) := below_alloc b0 _
  have b2 : Below w.heap.size w (((w.alloc (.cells #[.slice Am nm cm, .slice Ac nc cc] 25)).alloc (.cells #[.slice none 0 0] 77)).alloc (.cells #[.pointer none, .slice none 0 0, .map none] 82)) := below_alloc b1 _
  have b3 : Below w.heap.size w ((((w.alloc (.cells #[.slice Am nm cm, .slice Ac nc cc] 25)).alloc (.cells #[.slice none 0 0] 77)).alloc (.cells #[.pointer none, .slice none 0 0, .map none] 82)).alloc (.cells #[.slice none 0 0] 85)) := below_alloc b2 _
  have hw := (WoC.start nc (below_alloc b3 _) (alloc_at (alloc_at (alloc_at (blk_new (w.alloc (.cells #[.slice Am nm cm, .slice Ac nc cc] 25)) _) _) _) _) (alloc_at (alloc_at (blk_new ((w.alloc (.cells #[.slice Am nm cm, .slice Ac nc cc] 25)).alloc (.cells #[.slice none 0 0] 77)) _) _) _) (alloc_at (blk_new (((w.alloc (.cells #[.slice Am nm cm, .slice Ac nc cc] 25)).alloc (.cells #[.slice none 0 0] 77)).alloc (.cells #[.pointer none, .slice none 0 0, .map none] 82)) _) _) (blk_new ((((w.alloc (.cells #[.slice Am nm cm, .slice Ac nc cc] 25)).alloc (.cells #[.slice none 0 0] 77)).alloc (.cells #[.pointer none, .slice none 0 0, .map none] 82)).alloc (.cells #[.slice none 0 0] 85)) _) b0.size b1.size b2.size b3.size).below (below_drew (Below.refl _ _))
  have hsz : ∀ (V : World) (X : Obj), (V.alloc X).heap.size = V.heap.size + 1 := fun V X => by simp
  simp only [hsz] at hw
  exact ⟨_, rfl, _, _, _, _, hw⟩
end Go.Proofs.YtgopddjmmoohdaaGreatDoor

/- prog: Count, wrong, Check. -/
set_option linter.unusedSimpArgs false
set_option linter.unusedVariables false
namespace Go.Proofs.YtgopddjmmoohdaaGreatDoor
open Go.RowKit Go.Proofs.YtgopddjmmoohdaaGreatDoorW.PrintWords Go.Proofs.YtgopddjmmoohdaaGreatDoorW.PrintLast Go.Proofs.YtgopddjmmoohdaaGreatDoor.PPlaySilent

theorem el_op {w : World} {A : Option Addr} {n : Nat} {xs : List S39} (h : Kd.C k39 w A n xs) (j : Nat) (hj : j < n) :
    ∃ ad e, A = some ad ∧ Hd (xs[j]? = some e) ∧ w.cell? (ad.add (j * 6)) = some (.int .i64 e.f0) ∧ w.cell? ⟨(ad.add (j * 6)).block, (ad.add (j * 6)).off + 1, none⟩ = some (.int .i64 e.f1) ∧ w.cell? ⟨(ad.add (j * 6)).block, (ad.add (j * 6)).off + 2, none⟩ = some (.int .i64 e.f2) ∧
      w.cell? ⟨(ad.add (j * 6)).block, (ad.add (j * 6)).off + 3, none⟩ = some (.int .i64 e.f3) ∧ w.cell? ⟨(ad.add (j * 6)).block, (ad.add (j * 6)).off + 4, none⟩ = some (.int .i64 e.f4) ∧ w.cell? ⟨(ad.add (j * 6)).block, (ad.add (j * 6)).off + 5, none⟩ = some (.string e.f5) := by
  have hl : xs.length = n := h.1
  obtain ⟨ad, c, hA, _, hK, hc0⟩ := Kd.C_get h z39 (j : Int) (by omega) (by omega)
  rw [Int.toNat_natCast] at hK hc0
  obtain ⟨e, he⟩ : ∃ e, xs[j]? = some e := ⟨_, List.getElem?_eq_getElem (by omega)⟩
  rw [List.getD_eq_getElem?_getD, he] at hK
  obtain rfl := k39_open hK
  have hc : ∀ i u, ([.int .i64 e.f0, .int .i64 e.f1, .int .i64 e.f2, .int .i64 e.f3, .int .i64 e.f4, .string e.f5] : List Value)[i]? = some u → w.cell? (ad.add (j * 6 + i)) = some u := hc0
  exact ⟨ad, e, hA, ⟨he⟩, hc 0 _ rfl, by rw [← add_field _ _ 1 (by omega)]; exact hc 1 _ rfl, by rw [← add_field _ _ 2 (by omega)]; exact hc 2 _ rfl, by rw [← add_field _ _ 3 (by omega)]; exact hc 3 _ rfl,
    by rw [← add_field _ _ 4 (by omega)]; exact hc 4 _ rfl, by rw [← add_field _ _ 5 (by omega)]; exact hc 5 _ rfl⟩
/-- A program. -/
structure ProgV where
  main : List S39
  calls : List (List S39)
def kCalls : Kd (List S39) := Kd.slice 39 k39
/-- A program as a value is read. -/
def ReadsP (w : World) (vm vc : Value) (p : ProgV) : Prop :=
  ∃ A c B d, vm = .slice A p.main.length c ∧ vc = .slice B p.calls.length d ∧ k39.C w A p.main.length p.main ∧ kCalls.C w B p.calls.length p.calls
theorem ReadsP.below {w w' : World} {vm vc : Value} {p : ProgV} (h : ReadsP w vm vc p) (hb : Below w.heap.size w w') : ReadsP w' vm vc p := by
  obtain ⟨A, c, B, d, h1, h2, h3, h4⟩ := h
  exact ⟨A, c, B, d, h1, h2, Kd.C_below h3 hb, Kd.C_below h4 hb⟩
/-- How many operations there are. -/
def sumL (l : List (List S39)) : Nat := (l.map List.length).sum
def countP (p : ProgV) : Nat := p.main.length + sumL p.calls
theorem sumL_next {l : List (List S39)} {j : Nat} {x : List S39} (h : l[j]? = some x) : sumL (l.take (j + 1)) = sumL (l.take j) + x.length := by
  unfold sumL
  rw [List.take_add_one, h, List.map_append, List.sum_append]
  simp
theorem sumL_le {l : List (List S39)} (j : Nat) : sumL (l.take j) ≤ sumL l := by
  unfold sumL
  conv => rhs; rw [← List.take_append_drop j l, List.map_append, List.sum_append]
  exact Nat.le_add_right _ _
/-- A callback of a program. -/
theorem el_call {w : World} {B : Option Addr} {n : Nat} {cs : List (List S39)} (h : kCalls.C w B n cs) (j : Nat) (hj : j < n) :
    ∃ bd xs A c, B = some bd ∧ Hd (cs[j]? = some xs) ∧ w.cell? (bd.add j) = some (.slice A xs.length c) ∧ xs.length ≤ c ∧ k39.C w A xs.length xs := by
  have hl : cs.length = n := h.1
  obtain ⟨bd, c, hA, _, hK, hc0⟩ := Kd.C_get h [] (j : Int) (by omega) (by omega)
  rw [Int.toNat_natCast] at hK hc0
  obtain ⟨xs, he⟩ : ∃ e, cs[j]? = some e := ⟨_, List.getElem?_eq_getElem (by omega)⟩
  rw [List.getD_eq_getElem?_getD, he] at hK
  obtain ⟨A, c', rfl, hle, hC⟩ := hK
  refine ⟨bd, xs, A, c', hA, ⟨he⟩, ?_, hle, hC⟩
  have := hc0 0 _ rfl
  rwa [show j * kCalls.sz + 0 = j from by show j * 1 + 0 = j; omega] at this

set_option maxRecDepth 100000 in
set_option maxHeartbeats 1600000 in
theorem pcount_any (vm vc : Value) (p : ProgV) (w : World) (h : ReadsP w vm vc p) (hb : countP p ≤ 9223372036854775807) :
    Calls Tryz.prog 16 #[.agg #[vm, vc]] w fun e w' => e = .returned (.int .i64 (countP p)) ∧ Below w.heap.size w w' := by
  obtain ⟨A, c, B, d, rfl, rfl, hm, hc⟩ := h
  have hcm := Kd.C_max hc
  go_enter Tryz.func16, Tryz.ntmps16
  go_wp2
  go_loopw [3, 12] (fun v i wr => ∃ (j : Nat), j ≤ p.calls.length ∧ i = .int .i64 j ∧ v = .int .i64 ((p.main.length + sumL (p.calls.take j) : Nat) : Int) ∧ Below w.heap.size w wr) (fun _ i _ => p.calls.length - (intOf i).toNat)
  case atStart => exact ⟨0, Nat.zero_le _, rfl, rfl, below_alloc (Below.refl _ _) _⟩
  case round =>
    obtain ⟨j, hj, rfl, rfl, hB⟩ := hrel


    by_cases hlt : j < p.calls.length
    · obtain ⟨bd, xs, A', c', rfl, HX, x0, _, _⟩ := el_call (Kd.C_below hc hB) j hlt
      have h1 := sumL_next HX.out
      have h2 := sumL_le (l := p.calls) (j + 1)
      have hb' : p.main.length + sumL p.calls ≤ 9223372036854775807 := hb
      obtain ⟨k, hkd⟩ : ∃ k, k = p.main.length + sumL (p.calls.take j) := ⟨_, rfl⟩
      have HN := hd_ (show p.main.length + sumL (p.calls.take (j + 1)) = k + xs.length by omega)
      have hk : k + xs.length ≤ 9223372036854775807 := by omega
      rw [← hkd]
      clear h1 h2 hb' hkd
      go_wp2
      go_roundw
      case rel => exact ⟨j + 1, by omega, by go_num, by rw [HN.out]; go_num, hB⟩
      case measure => simp [intOf]; omega
    · have HP := hd_ (show p.calls.take j = p.calls from List.take_of_length_le (by omega))
      go_wp2
      go_ret
      exact ⟨by rw [HP.out]; rfl, hB⟩
theorem wrong1_any (x : S39) (w : World) (hO : LayO w) : Calls Tryz.prog 26 #[(opV x)] w fun e w' => e = .returned (.bool (!rightO x)) ∧ Below w.heap.size w w' := by
  have hri := fun W h => oright_any x W h
  simp only [opV] at hri ⊢
  have hbo := fun X => (Below.refl w.heap.size w).alloc (Nat.le_refl _) X
  go_enter Tryz.func26, Tryz.ntmps26
  go_wp2_with (go_at_call 27; refine (hri _ (hO.below (hbo _))).mono ?_; rintro e w1 ⟨rfl, hB1⟩)
  go_ret
  exact ⟨rfl, below_then (hbo _) (hbo _).size hB1⟩
/-- The place of the first operation that isn't right. -/
def WrongAt (l : List S39) (k : Int) : Prop := (l.all rightO = true ∧ k = -1) ∨ (l.all rightO = false ∧ 0 ≤ k)
theorem all_take1 {α : Type} {f : α → Bool} {l : List α} {j : Nat} {x : α} (h : (l.take j).all f = true) (hx : l[j]? = some x) (hf : f x = true) : (l.take (j + 1)).all f = true := by
  rw [List.take_add_one, hx, List.all_append, h]
  simp [hf]
theorem all_not {α : Type} {f : α → Bool} {l : List α} {j : Nat} {x : α} (hx : l[j]? = some x) (hf : f x = false) : l.all f = false := by
  rw [Bool.eq_false_iff]
  intro h
  rw [List.all_eq_true] at h
  have := h x (List.mem_of_getElem? hx)
  rw [hf] at this
  cases this
set_option maxRecDepth 100000 in
set_option maxHeartbeats 1600000 in
theorem oindex_any (l : List S39) (A : Option Addr) (c : Nat) (w : World) (hO : LayO w) (hA : k39.C w A l.length l) :
    Calls Tryz.prog 25 #[.slice A l.length c, .func (.func 26) #[] #[]] w fun e w' => ∃ k, e = .returned (.int .i64 k) ∧ WrongAt l k ∧ Below w.heap.size w w' := by
  have hcm := Kd.C_max hA
  have hw := fun x W h => wrong1_any x W h
  simp only [opV] at hw
  have e107 : ∀ args w, (callFunc 26 args).run Tryz.prog w = .ok (.enter 26 args) w := enters_of Tryz.func26 (by kernel_rfl) rfl
  go_enter Tryz.func25, Tryz.ntmps25
  go_wp2
  go_loopw [5, 8] (fun _ i wr => ∃ j : Nat, j ≤ l.length ∧ i = .int .i64 j ∧ Hd ((l.take j).all rightO = true) ∧ Below w.heap.size w wr) (fun _ i _ => l.length - (intOf i).toNat)
  case atStart => exact ⟨0, Nat.zero_le _, rfl, ⟨rfl⟩, Below.refl _ _⟩
  case round =>
    obtain ⟨j, hj, rfl, HT, hB⟩ := hrel
    by_cases hlt : j < l.length
    · obtain ⟨ad, x, rfl, HX, x0, x1, x2, x3, x4, x5⟩ := el_op (Kd.C_below hA hB) j hlt
      have hx := hw x wr (hO.below hB)
      cases hr : rightO x with
      | true =>
        rw [hr] at hx
        have HR := hd_ hr
        clear hr hw
        go_wp2_with (go_at_fn 26; refine hx.mono ?_; rintro e w1 ⟨rfl, hB1⟩)
        go_roundw
        case rel => exact ⟨j + 1, by omega, by go_num, ⟨all_take1 HT.out HX.out HR.out⟩, below_then hB hB.size hB1⟩
        case measure => simp [intOf]; omega
      | false =>
        rw [hr] at hx
        have HR := hd_ hr
        clear hr hw
        go_wp2_with (go_at_fn 26; refine hx.mono ?_; rintro e w1 ⟨rfl, hB1⟩)
        go_ret
        exact ⟨_, rfl, .inr ⟨all_not HX.out HR.out, by omega⟩, below_then hB hB.size hB1⟩
    · have HP := hd_ (show l.take j = l from List.take_of_length_le (by omega))
      go_wp2
      go_ret
      exact ⟨_, rfl, .inl ⟨by rw [← HP.out]; exact HT.out, rfl⟩, hB⟩
theorem wrong_any (l : List S39) (A : Option Addr) (c : Nat) (w : World) (hO : LayO w) (hA : k39.C w A l.length l) :
    Calls Tryz.prog 17 #[.slice A l.length c] w fun e w' => ∃ k, e = .returned (.int .i64 k) ∧ WrongAt l k ∧ Below w.heap.size w w' := by
  have hi := oindex_any l A c w hO hA
  go_enter Tryz.func17, Tryz.ntmps17
  go_wp2_with (go_at_call 25; refine hi.mono ?_; rintro e w1 ⟨k, rfl, hk, hB1⟩)
  go_ret
  exact ⟨k, rfl, hk, hB1⟩
theorem wrong_ok (l : List S39) (A : Option Addr) (c : Nat) (h : l.all rightO = true) (w : World) (hO : LayO w) (hA : k39.C w A l.length l) :
    Calls Tryz.prog 17 #[.slice A l.length c] w fun e w' => e = .returned (.int .i64 (-1)) ∧ Below w.heap.size w w' := by
  refine (wrong_any l A c w hO hA).mono ?_
  rintro e w' ⟨k, rfl, hk, hB⟩
  rcases hk with ⟨_, rfl⟩ | ⟨h0, _⟩
  · exact ⟨rfl, hB⟩
  · rw [h] at h0; cases h0
theorem wrong_no (l : List S39) (A : Option Addr) (c : Nat) (h : l.all rightO = false) (w : World) (hO : LayO w) (hA : k39.C w A l.length l) :
    Calls Tryz.prog 17 #[.slice A l.length c] w fun e w' => ∃ k : Int, e = .returned (.int .i64 k) ∧ 0 ≤ k ∧ Below w.heap.size w w' := by
  refine (wrong_any l A c w hO hA).mono ?_
  rintro e w' ⟨k, rfl, hk, hB⟩
  rcases hk with ⟨h0, _⟩ | ⟨_, hk⟩
  · rw [h] at h0; cases h0
  · exact ⟨k, rfl, hk, hB⟩
def allR (p : ProgV) : Bool := p.main.all rightO && p.calls.all (fun l => l.all rightO)
/-- What Check answers. -/
def checkC (p : ProgV) : Int := if 64 < p.calls.length ∨ 4096 < countP p then 9 else if allR p = false then 7 else 0
theorem textP_big {p : ProgV} (h : 64 < p.calls.length ∨ 4096 < countP p) : checkC p = 9 := if_pos h
theorem textP_main {p : ProgV} (h : ¬ (64 < p.calls.length ∨ 4096 < countP p)) (hm : allR p = false) : checkC p = 7 := (if_neg h).trans (if_pos hm)
theorem textP_ok {p : ProgV} (h : ¬ (64 < p.calls.length ∨ 4096 < countP p)) (hm : allR p = true) : checkC p = 0 := (if_neg h).trans (if_neg (by rw [hm]; decide))
set_option maxRecDepth 100000 in
set_option maxHeartbeats 1600000 in
theorem pcheck_any (vm vc : Value) (p : ProgV) (w : World) (hO : LayO w) (h : ReadsP w vm vc p) (hb : countP p ≤ 4294967296) :
    Calls Tryz.prog 13 #[.agg #[vm, vc]] w fun e w' => (∃ a b : Value, e = .returned (.tuple #[a, b, .int .i64 (checkC p)])) ∧ Below w.heap.size w w' := by
  have hcn := fun W hW => pcount_any vm vc p W (h.below hW) (by omega)
  obtain ⟨A, c, B, d, rfl, rfl, hm, hc⟩ := h
  have hcm := Kd.C_max hc
  have hwm := fun W hO hA => wrong_any p.main A c W hO hA
  have hbo := fun X => (Below.refl w.heap.size w).alloc (Nat.le_refl _) X
  have hX0 := fun X => blk_new w X
  by_cases h64 : 64 < p.calls.length
  · have HE := hd_ (textP_big (p := p) (.inl h64))
    have q64 : (64 : Int) < (p.calls.length : Int) := by omega
    go_enter Tryz.func13, Tryz.ntmps13
    go_wp2
    go_ret3
    exact ⟨⟨_, _, by rw [HE.out]; rfl⟩, hbo _⟩
  · have q64 : ¬ (64 : Int) < (p.calls.length : Int) := by omega
    by_cases h4 : 4096 < countP p
    · have HE := hd_ (textP_big (p := p) (.inr h4))
      have q4 : (4096 : Int) < (countP p : Int) := by omega
      go_enter Tryz.func13, Tryz.ntmps13
      go_wp2_with (go_at_call 16; refine (hcn _ (hbo _)).mono ?_; rintro e w1 ⟨rfl, hB1⟩)
      go_ret3
      exact ⟨⟨_, _, by rw [HE.out]; rfl⟩, below_then (hbo _) (hbo _).size hB1⟩
    · have q4 : ¬ (4096 : Int) < (countP p : Int) := by omega
      have hnb : ¬ (64 < p.calls.length ∨ 4096 < countP p) := by omega
      have HN := hd_ hnb
      clear hnb hb
      go_enter Tryz.func13, Tryz.ntmps13
      go_wp2_with (go_at_call 16; refine (hcn _ (hbo _)).mono ?_; rintro e w1 ⟨rfl, hB1⟩; have hC1 := below_then (hbo _) (hbo _).size hB1; have hX1 := (hB1.block _ (blk_lt (hX0 _))).trans (hX0 _); have z0 := blk_cell hX1 0; have z1 := blk_cell hX1 1)
      have hm1 := Kd.C_below hm hC1
      clear hcn hwm
      cases hma : p.main.all rightO with
      | false =>
        have hw := wrong_no p.main A c hma w1 (hO.below hC1) hm1
        have HE := hd_ (textP_main HN.out (by rw [allR, hma]; rfl))
        clear hma
        go_wp2_with (go_at_call 17; refine hw.mono ?_; rintro e w2 ⟨k, rfl, hk, hB2⟩)
        go_ret3
        exact ⟨⟨_, _, by rw [HE.out]; rfl⟩, below_then hC1 hC1.size hB2⟩
      | true =>
        have hw := wrong_ok p.main A c hma w1 (hO.below hC1) hm1
        have HM := hd_ hma
        clear hma
        go_wp2_with (go_at_call 17; refine hw.mono ?_; rintro e w2 ⟨rfl, hB2⟩; have hC2 := below_then hC1 hC1.size hB2; have hX2 := (hB2.block _ (blk_lt hX1)).trans hX1; have z2 := blk_cell hX2 0; have z3 := blk_cell hX2 1)
        go_loopw [6, 7, 8, 27] (fun _ _ _ i wr => ∃ j : Nat, j ≤ p.calls.length ∧ i = .int .i64 j ∧ Hd ((p.calls.take j).all (fun l => l.all rightO) = true) ∧ Below w.heap.size w wr) (fun _ _ _ i _ => p.calls.length - (intOf i).toNat)
        case atStart => exact ⟨0, Nat.zero_le _, rfl, ⟨rfl⟩, hC2⟩
        case round =>
          obtain ⟨j, hj, rfl, HT, hB⟩ := hrel
          by_cases hlt : j < p.calls.length
          · obtain ⟨bd, xs, A', c', rfl, HX, x0, _, hxs⟩ := el_call (Kd.C_below hc hB) j hlt
            cases hx : xs.all rightO with
            | false =>
              have hw := wrong_no xs A' c' hx wr (hO.below hB) hxs
              have HE := hd_ (textP_main HN.out (by rw [allR, all_not HX.out hx, Bool.and_false]))
              clear hx
              go_wp2_with (go_at_call 17; refine hw.mono ?_; rintro e w3 ⟨k, rfl, hk, hB3⟩)
              go_ret3
              exact ⟨⟨_, _, by rw [HE.out]; rfl⟩, below_then hB hB.size hB3⟩
            | true =>
              have hw := wrong_ok xs A' c' hx wr (hO.below hB) hxs
              have HK := hd_ hx
              clear hx
              go_wp2_with (go_at_call 17; refine hw.mono ?_; rintro e w3 ⟨rfl, hB3⟩)
              go_roundw
              case rel => exact ⟨j + 1, by omega, by go_num, ⟨all_take1 HT.out HX.out HK.out⟩, below_then hB hB.size hB3⟩
              case measure => simp [intOf]; omega
          · have HP := hd_ (show p.calls.take j = p.calls from List.take_of_length_le (by omega))
            have HE : Hd ((checkC p) = 0) := ⟨by
              have h1 := HT.out
              rw [HP.out] at h1
              rw [textP_ok HN.out (by rw [allR, HM.out, h1]; rfl)]⟩
            go_wp2
            go_ret3
            exact ⟨⟨_, _, by rw [HE.out]; rfl⟩, hB⟩
end Go.Proofs.YtgopddjmmoohdaaGreatDoor

/- prog: Call. -/
set_option linter.unusedSimpArgs false
set_option linter.unusedVariables false
set_option maxRecDepth 100000
set_option maxHeartbeats 3200000
namespace Go.Proofs.YtgopddjmmoohdaaGreatDoor
open Go.RowKit Go.Proofs.YtgopddjmmoohdaaGreatDoorW.PrintWords Go.Proofs.YtgopddjmmoohdaaGreatDoorW.PrintLast Go.Proofs.YtgopddjmmoohdaaGreatDoor.PPlaySilent

end Go.Proofs.YtgopddjmmoohdaaGreatDoor

/- play: what a player is; note. -/
set_option linter.unusedSimpArgs false
set_option linter.unusedVariables false
set_option maxRecDepth 100000
set_option maxHeartbeats 3200000
namespace Go.Proofs.YtgopddjmmoohdaaGreatDoor
open Go.RowKit Go.Proofs.YtgopddjmmoohdaaGreatDoorW.PrintWords Go.Proofs.YtgopddjmmoohdaaGreatDoorW.PrintLast Go.Proofs.YtgopddjmmoohdaaGreatDoor.PPlaySilent

theorem range_blkR {w : World} {g : Nat} {t : TypeId} {cs : List Value} (h : w.heap[g]? = some (.cells cs.toArray t (0, 0))) : w.rangeAt g 0 cs := by
  intro j v hj
  rw [Nat.zero_add, blk_cell h]
  simpa using hj
theorem info37' : (Tryz.prog.info? 37).map (·.size) = some 19 := by kernel_rfl
theorem info37 : (Tryz.prog.info? 37).map (fun i => (i.zero, i.size, i.bytes)) = some (some (.agg #[.int .i64 0, .int .i64 0, .int .i64 0, .int .i64 0, .int .i64 0, .int .i64 0, .int .i64 0, .slice none 0 0, .bool false, .bool false, .bool false, .bool false, .bool false, .bool false, .bool false, .bool false, .int .i64 0, .int .i64 0, .int .i64 0]), 19, 112) := by kernel_rfl
/-- A player's state. -/
structure Pl where
  st : St
  fuel : Int
  out : Bool
  sent : Int
  tr : List S37
def noteF (s : Pl) (x : S37) : Pl := if s.out = true then s else { s with tr := s.tr ++ [x] }
def plC (Wb : Nat) (vm vc v : Value) (s : Pl) : Array Value := #[.pointer (some ⟨Wb, 0, none⟩), vm, vc, .int .i64 s.fuel, .bool s.out, .int .i64 s.sent, v]
/-- A player at block Pb, its trace's blocks ow. -/
structure PlC (cl : Nat → Nat) (ow : Nat → Prop) (w0 w : World) (Pb Wb F L B calls : Nat) (vm vc : Value) (s : Pl) : Prop where
  wo : WoC cl w0 w Wb F L B calls s.st
  pb : w0.heap.size ≤ Pb
  cb : cl Pb = 0
  nb : ¬ ow Pb
  lo : ∀ k, ow k → cl k = 0 ∧ w0.heap.size ≤ k ∧ k < w.heap.size
  row : ∃ v, w.heap[Pb]? = some (.cells (plC Wb vm vc v s) 53 (0, 0)) ∧ k37.R 37 w w0.heap.size ow v s.tr
/-- The player's blocks. -/
def mine (cl : Nat → Nat) (ow : Nat → Prop) (Pb k : Nat) : Prop := cl k ≠ 0 ∨ ow k ∨ k = Pb
structure PlStep (Pb : Nat) (cl : Nat → Nat) (ow : Nat → Prop) (cl' : Nat → Nat) (ow' : Nat → Prop) (w w' : World) : Prop where
  ste : Ste (mine cl ow Pb) w w'
  new : ∀ k, mine cl' ow' Pb k → mine cl ow Pb k ∨ w.heap.size ≤ k
theorem PlStep.trans {Pb : Nat} {cl cl1 cl2 : Nat → Nat} {ow ow1 ow2 : Nat → Prop} {w w1 w2 : World} (h : PlStep Pb cl ow cl1 ow1 w w1) (h1 : PlStep Pb cl1 ow1 cl2 ow2 w1 w2) : PlStep Pb cl ow cl2 ow2 w w2 :=
  ⟨h.ste.trans h1.ste (fun k hk => h.new k hk), fun k hk => (h1.new k hk).elim (fun hk => h.new k hk) (fun hk => .inr (Nat.le_trans h.ste.size hk))⟩
section
variable {cl : Nat → Nat} {ow : Nat → Prop} {w0 w w' : World} {Pb Wb F L B calls : Nat} {vm vc : Value} {s : Pl}
theorem PlStep.same (hb : Below w.heap.size w w') : PlStep Pb cl ow cl ow w w' := ⟨Ste.of_below hb, fun k hk => .inl hk⟩
theorem PlC.lt (h : PlC cl ow w0 w Pb Wb F L B calls vm vc s) : Pb < w.heap.size := by obtain ⟨v, h1, _⟩ := h.row; exact blk_lt h1
theorem PlC.low (h : PlC cl ow w0 w Pb Wb F L B calls vm vc s) {k : Nat} (hk : mine cl ow Pb k) : w0.heap.size ≤ k ∧ k < w.heap.size := by
  rcases hk with hk | hk | rfl
  · exact h.wo.lo k hk
  · exact (h.lo k hk).2
  · exact ⟨h.pb, h.lt⟩
theorem PlC.ste {P : Nat → Prop} (h : PlC cl ow w0 w Pb Wb F L B calls vm vc s) (hs : Ste P w w') (hd : ∀ k, mine cl ow Pb k → ¬ P k) (hl : ∀ k, P k → w0.heap.size ≤ k) : PlC cl ow w0 w' Pb Wb F L B calls vm vc s := by
  obtain ⟨v, h1, h2⟩ := h.row
  exact ⟨h.wo.ste hs (fun k hk => hd k (.inl hk)) hl, h.pb, h.cb, h.nb, fun k hk => ⟨(h.lo k hk).1, (h.lo k hk).2.1, Nat.lt_of_lt_of_le (h.lo k hk).2.2 hs.size⟩, v, hs.blk h1 (hd _ (.inr (.inr rfl))), R_ste h2 hs (fun k hk => hd k (.inr (.inl hk)))⟩
theorem PlC.below (h : PlC cl ow w0 w Pb Wb F L B calls vm vc s) (hb : Below w.heap.size w w') : PlC cl ow w0 w' Pb Wb F L B calls vm vc s := h.ste (P := fun _ => False) (Ste.of_below hb) (fun _ _ => id) (fun _ h => h.elim)
/-- A step of the world. -/
theorem PlC.setW (h : PlC cl ow w0 w Pb Wb F L B calls vm vc s) {cl' : Nat → Nat} {st : St} (hw : WoC cl' w0 w' Wb F L B calls st) (hs : WoStep cl cl' w w') :
    PlC cl' ow w0 w' Pb Wb F L B calls vm vc { s with st := st } ∧ PlStep Pb cl ow cl' ow w w' := by
  obtain ⟨v, h1, h2⟩ := h.row
  have hz : ∀ k, k < w.heap.size → cl k = 0 → cl' k = 0 := fun k hk h0 => by
    by_cases e : cl' k = 0
    · exact e
    · rcases hs.new k e with h3 | h3 <;> omega
  refine ⟨⟨hw, h.pb, hz _ h.lt h.cb, h.nb, fun k hk => ⟨hz k (h.lo k hk).2.2 (h.lo k hk).1, (h.lo k hk).2.1, Nat.lt_of_lt_of_le (h.lo k hk).2.2 hs.ste.size⟩, v, hs.ste.blk h1 (fun e => e h.cb), R_ste h2 hs.ste (fun k hk e => e (h.lo k hk).1)⟩, hs.ste.mono (fun k hk => .inl (.inl hk)), fun k hk => ?_⟩
  rcases hk with hk | hk
  · exact (hs.new k hk).imp .inl id
  · exact .inl (.inr hk)
/-- A cell of the player's own block is written. -/
theorem PlC.setP (h : PlC cl ow w0 w Pb Wb F L B calls vm vc s) (j : Nat) (u : Value) {s' : Pl} (hst : s'.st = s.st) (htr : s'.tr = s.tr) (hj : ∀ v, (plC Wb vm vc v s).setIfInBounds j u = plC Wb vm vc v s') :
    PlC cl ow w0 (w.setCell ⟨Pb, j, none⟩ u) Pb Wb F L B calls vm vc s' ∧ PlStep Pb cl ow cl ow w (w.setCell ⟨Pb, j, none⟩ u) := by
  obtain ⟨v, h1, h2⟩ := h.row
  have hs := setCell_ste w Pb j u
  refine ⟨⟨?_, h.pb, h.cb, h.nb, fun k hk => ⟨(h.lo k hk).1, (h.lo k hk).2.1, Nat.lt_of_lt_of_le (h.lo k hk).2.2 hs.size⟩, v, ?_, ?_⟩, hs.mono (fun k hk => .inl (.inr (.inr hk))), fun k hk => .inl hk⟩
  · rw [hst]; exact h.wo.ste hs (fun k hk e => hk (by rw [e]; exact h.cb)) (fun k e => by rw [e]; exact h.pb)
  · rw [← hj v]; exact blk_set h1 j u
  · rw [htr]; exact Kd.R_set h2 h1 (by decide) j u
end
theorem note_any {cl : Nat → Nat} {ow : Nat → Prop} {w0 w : World} {Pb Wb F L B calls : Nat} {vm vc : Value} {s : Pl} (h : PlC cl ow w0 w Pb Wb F L B calls vm vc s) (x : S37) (pv : Value) (okp : Nat → Prop)
    (hp : (Kd.int .i64).R 3 w w0.heap.size okp pv x.f7) (hok : ∀ k, okp k → cl k = 0 ∧ ¬ ow k ∧ k ≠ Pb) (hl : (s.tr.length + 1) * 112 ≤ 140737488355328) :
    Calls Tryz.prog 21 #[.pointer (some ⟨Pb, 0, none⟩), .agg #[.int .i64 x.f0, .int .i64 x.f1, .int .i64 x.f2, .int .i64 x.f3, .int .i64 x.f4, .int .i64 x.f5, .int .i64 x.f6, pv, .bool x.f8.f0, .bool x.f8.f1, .bool x.f8.f2, .bool x.f8.f3, .bool x.f8.f4, .bool x.f8.f5, .bool x.f8.f6, .bool x.f8.f7, .int .i64 x.f9, .int .i64 x.f10, .int .i64 x.f11]] w fun e w' => e = .returned (.tuple #[]) ∧ ∃ ow', PlC cl ow' w0 w' Pb Wb F L B calls vm vc (noteF s x) ∧ Ste (mine cl ow Pb) w w' ∧ ∀ k, ow' k → ow k ∨ okp k ∨ w.heap.size ≤ k := by
  obtain ⟨st, fu, ou, se, tr⟩ := s
  obtain ⟨v, hPb, hR⟩ := h.row
  cases ou with
  | true =>
    have z4 := fun X => ((blk_cell (alloc_at hPb X) 4).trans rfl : (w.alloc X).cell? ⟨Pb, 4, none⟩ = some (.bool true))
    have hF := hd_ (fun W hB => (⟨ow, h.below (w' := W) hB, Ste.of_below hB, fun k hk => .inl hk⟩ : ∃ ow', PlC cl ow' w0 W Pb Wb F L B calls vm vc (noteF ⟨st, fu, true, se, tr⟩ x) ∧ Ste (mine cl ow Pb) w W ∧ ∀ k, ow' k → ow k ∨ okp k ∨ w.heap.size ≤ k))
    have hb := fun X => below_alloc (Below.refl w.heap.size w) X
    clear h hR hp hok hl hPb
    go_enter Tryz.func21, Tryz.ntmps21
    go_wp2
    go_end0
    exact ⟨rfl, hF.out _ (hb _)⟩
  | false =>
    have z4 := fun X => ((blk_cell (alloc_at hPb X) 4).trans rfl : (w.alloc X).cell? ⟨Pb, 4, none⟩ = some (.bool false))
    have hv := hR.1
    have hvl := Kd.R_lt hR
    have hp1 := fun X => Kd.R_below (Kd.R_mono (Kd.R_bound hp) (fun k hk => (⟨hk.1, hk.2.2.1⟩ : okp k ∧ k < w.heap.size))) (below_drew (below_alloc (Below.refl w.heap.size w) X))
    replace hp1 := hp1 (.cells #[.int .i64 x.f0, .int .i64 x.f1, .int .i64 x.f2, .int .i64 x.f3, .int .i64 x.f4, .int .i64 x.f5, .int .i64 x.f6, pv, .bool x.f8.f0, .bool x.f8.f1, .bool x.f8.f2, .bool x.f8.f3, .bool x.f8.f4, .bool x.f8.f5, .bool x.f8.f6, .bool x.f8.f7, .int .i64 x.f9, .int .i64 x.f10, .int .i64 x.f11] 37)
    have hbs : w0.heap.size ≤ w.heap.size := h.wo.base.size
    have nb := h.nb
    have hfin := hd_ h
    replace hl := hd_ hl
    clear h hp
    go_enter Tryz.func21, Tryz.ntmps21
    go_wp2
    refine start_ (n := 11) (S := (fun W_ => W_.heap[Pb]? = some (.cells (plC Wb vm vc v ⟨st, fu, false, se, tr⟩) 53 (0, 0)) ∧ W_.heap[w.heap.size]? = some (.cells #[.int .i64 x.f0, .int .i64 x.f1, .int .i64 x.f2, .int .i64 x.f3, .int .i64 x.f4, .int .i64 x.f5, .int .i64 x.f6, pv, .bool x.f8.f0, .bool x.f8.f1, .bool x.f8.f2, .bool x.f8.f3, .bool x.f8.f4, .bool x.f8.f5, .bool x.f8.f6, .bool x.f8.f7, .int .i64 x.f9, .int .i64 x.f10, .int .i64 x.f11] 37 (0, 0)))) (ds := [10]) (bm 11 0) (by kernel_rfl) rfl (by kernel_rfl) ⟨alloc_at hPb _, blk_new w _⟩ (fun hHeld => ?_)
    refine pu_ 0 (some 9) (bm 11 1) ?_
    refine pu_ 1 (some 10) (bm 11 3) ?_
    refine pu_ 2 (some 11) (bm 11 7) ?_
    refine pu_ 3 (some 12) (bm 11 15) ?_
    refine tb_ 4 (some 13) (bm 11 31) hHeld ?_ (hy := by intro w' hSw; have z8 : w'.cell? ⟨Pb, 6, none⟩ = some v := (blk_cell hSw.1 6).trans rfl; go_simp; with_reducible rfl)
    refine take_ (i := 5) (N := (some 14)) (v := .agg #[.int .i64 x.f0, .int .i64 x.f1, .int .i64 x.f2, .int .i64 x.f3, .int .i64 x.f4, .int .i64 x.f5, .int .i64 x.f6, pv, .bool x.f8.f0, .bool x.f8.f1, .bool x.f8.f2, .bool x.f8.f3, .bool x.f8.f4, .bool x.f8.f5, .bool x.f8.f6, .bool x.f8.f7, .int .i64 x.f9, .int .i64 x.f10, .int .i64 x.f11]) (a' := ?_) (bm 11 63) rfl rfl (by kernel_rfl) (fun _ _ _ h => h) (yieldsIf_load_mid (by rfl) 37 (.tmp 3) rfl w.heap.size 0 rfl [.int .i64 x.f0, .int .i64 x.f1, .int .i64 x.f2, .int .i64 x.f3, .int .i64 x.f4, .int .i64 x.f5, .int .i64 x.f6, pv, .bool x.f8.f0, .bool x.f8.f1, .bool x.f8.f2, .bool x.f8.f3, .bool x.f8.f4, .bool x.f8.f5, .bool x.f8.f6, .bool x.f8.f7, .int .i64 x.f9, .int .i64 x.f10, .int .i64 x.f11] _ (fun W hS => range_blkR hS.2) Tryz.underlying37 rfl info37') hHeld ?_ ?_
    rotate_left
    · simp only [Act.put, List.setIfInBounds_toArray, List.set_cons_zero, List.set_cons_succ]
      rfl
    refine one_ (i := 6) (N := (some 15)) (bm 11 127) rfl rfl (by kernel_rfl) (by decide) (fun K hK => ?_)
    refine value_ (w1 := (w.alloc (.cells #[.int .i64 x.f0, .int .i64 x.f1, .int .i64 x.f2, .int .i64 x.f3, .int .i64 x.f4, .int .i64 x.f5, .int .i64 x.f6, pv, .bool x.f8.f0, .bool x.f8.f1, .bool x.f8.f2, .bool x.f8.f3, .bool x.f8.f4, .bool x.f8.f5, .bool x.f8.f6, .bool x.f8.f7, .int .i64 x.f9, .int .i64 x.f10, .int .i64 x.f11] 37)).drew.alloc (.cells #[.int .i64 x.f0, .int .i64 x.f1, .int .i64 x.f2, .int .i64 x.f3, .int .i64 x.f4, .int .i64 x.f5, .int .i64 x.f6, pv, .bool x.f8.f0, .bool x.f8.f1, .bool x.f8.f2, .bool x.f8.f3, .bool x.f8.f4, .bool x.f8.f5, .bool x.f8.f6, .bool x.f8.f7, .int .i64 x.f9, .int .i64 x.f10, .int .i64 x.f11] 37)) (v := .slice (some ⟨(w.alloc (.cells #[.int .i64 x.f0, .int .i64 x.f1, .int .i64 x.f2, .int .i64 x.f3, .int .i64 x.f4, .int .i64 x.f5, .int .i64 x.f6, pv, .bool x.f8.f0, .bool x.f8.f1, .bool x.f8.f2, .bool x.f8.f3, .bool x.f8.f4, .bool x.f8.f5, .bool x.f8.f6, .bool x.f8.f7, .int .i64 x.f9, .int .i64 x.f10, .int .i64 x.f11] 37)).drew.heap.size, 0, none⟩) 1 1) (by rfl) rfl ?_ ?_
    · go_simp
    refine hK.out _ _ ⟨alloc_at hHeld.1 _, alloc_at hHeld.2 _⟩ (fun hHeld6 => ?_)
    clear hK K
    refine norm_ (a' := ?_) ?_ ?_
    rotate_left
    · show Act.put _ (some 15) _ = _
      simp only [Act.put, List.setIfInBounds_toArray, List.set_cons_zero, List.set_cons_succ]
      rfl
    refine one_ (i := 7) (N := (some 16)) (bm 11 255) rfl rfl (by kernel_rfl) (by decide) (fun K hK => ?_)
    refine Kd.R_append_step k37 (w0 := w) w0.heap.size (by rfl) (.tmp 13) (.tmp 15) 28 37 (.agg #[.int .i64 0, .int .i64 0, .int .i64 0, .int .i64 0, .int .i64 0, .int .i64 0, .int .i64 0, .slice none 0 0, .bool false, .bool false, .bool false, .bool false, .bool false, .bool false, .bool false, .bool false, .int .i64 0, .int .i64 0, .int .i64 0]) 112 rfl Tryz.underlying28 info37 rfl (by decide) (by decide) v tr x [.int .i64 x.f0, .int .i64 x.f1, .int .i64 x.f2, .int .i64 x.f3, .int .i64 x.f4, .int .i64 x.f5, .int .i64 x.f6, pv, .bool x.f8.f0, .bool x.f8.f1, .bool x.f8.f2, .bool x.f8.f3, .bool x.f8.f4, .bool x.f8.f5, .bool x.f8.f6, .bool x.f8.f7, .int .i64 x.f9, .int .i64 x.f10, .int .i64 x.f11] (fun k => ow k ∨ okp k ∨ w.heap.size ≤ k) (fun k => okp k ∧ k < w.heap.size) rfl rfl (k37_mkM _ _ _ x hp1) (fun k hk => ⟨.inr (.inl hk.1), fun e => (hok k hk.1).2.1 (hv k e.symm)⟩) (fun k hk => .inr (.inr (by simp at hk; omega))) (Kd.R_mono (Kd.R_below hR (below_drew (below_alloc (Below.refl _ _) _))) (fun k hk => .inl hk)) ((below_drew (below_alloc (Below.refl _ _) _)).mono hbs) (by simp; omega) (by have := hl.out; omega) ?_
    intro v1 w1 hR1 hB1 hg1 hat1
    have hP1 := blk_grown (show ((w.alloc (.cells #[.int .i64 x.f0, .int .i64 x.f1, .int .i64 x.f2, .int .i64 x.f3, .int .i64 x.f4, .int .i64 x.f5, .int .i64 x.f6, pv, .bool x.f8.f0, .bool x.f8.f1, .bool x.f8.f2, .bool x.f8.f3, .bool x.f8.f4, .bool x.f8.f5, .bool x.f8.f6, .bool x.f8.f7, .int .i64 x.f9, .int .i64 x.f10, .int .i64 x.f11] 37)).drew).heap[Pb]? = _ from hHeld.1) hg1 (fun e => nb (hv Pb e.symm))
    have hX1 := blk_grown (show ((w.alloc (.cells #[.int .i64 x.f0, .int .i64 x.f1, .int .i64 x.f2, .int .i64 x.f3, .int .i64 x.f4, .int .i64 x.f5, .int .i64 x.f6, pv, .bool x.f8.f0, .bool x.f8.f1, .bool x.f8.f2, .bool x.f8.f3, .bool x.f8.f4, .bool x.f8.f5, .bool x.f8.f6, .bool x.f8.f7, .int .i64 x.f9, .int .i64 x.f10, .int .i64 x.f11] 37)).drew).heap[w.heap.size]? = _ from hHeld.2) hg1 (fun e => by have := hvl _ e.symm; omega)
    obtain ⟨A1, c1, rfl⟩ := Kd.R_slice hR1
    refine hK.out _ _ ⟨hP1, hX1⟩ (fun hHeld => ?_)
    clear hK K
    refine norm_ (a' := ?_) ?_ ?_
    rotate_left
    · show Act.put _ (some 16) _ = _
      simp only [Act.put, List.setIfInBounds_toArray, List.set_cons_zero, List.set_cons_succ]
      rfl
    refine pu_ 8 (some 17) (bm 11 511) ?_
    refine pu_ 9 (some 18) (bm 11 1023) ?_
    refine last_ (i := 10) (N := none) (bm 11 2047) rfl rfl (by kernel_rfl) (by decide) (fun K hK => ?_)
    refine skip_ (w1 := w1.setCell ⟨Pb, 6, none⟩ (.slice A1 (tr ++ [x]).length c1)) (by rfl) rfl ?_ ?_
    · have z6 : w1.cell? ⟨Pb, 6, none⟩ = some v := (blk_cell hP1 6).trans rfl
      have f6 := blk_frozen hP1 6
      go_simp
    refine hK.out _ _ ?_
    clear hK K
    refine done_ (by kernel_rfl) ?_
    go_end0
    have h := hfin.out
    have hBd : Below w.heap.size w (w.alloc (.cells #[.int .i64 x.f0, .int .i64 x.f1, .int .i64 x.f2, .int .i64 x.f3, .int .i64 x.f4, .int .i64 x.f5, .int .i64 x.f6, pv, .bool x.f8.f0, .bool x.f8.f1, .bool x.f8.f2, .bool x.f8.f3, .bool x.f8.f4, .bool x.f8.f5, .bool x.f8.f6, .bool x.f8.f7, .int .i64 x.f9, .int .i64 x.f10, .int .i64 x.f11] 37)).drew := below_drew (below_alloc (Below.refl _ _) _)
    have hS1 := grown_ste hg1 ⟨hB1.os, hB1.tape, hB1.output, hg1.size, fun k hk => absurd hk (Nat.not_lt_zero k)⟩
    have hSt : Ste (fun k => v.ownBlock = some k ∨ k = Pb) w (w1.setCell ⟨Pb, 6, none⟩ (.slice A1 (tr ++ [x]).length c1)) :=
      ((Ste.of_below hBd).trans hS1 (fun k hk => .inl (.inl hk))).trans (setCell_ste w1 Pb 6 _) (fun k hk => .inl (.inr hk))
    have hvw : ∀ k, v.ownBlock = some k → w0.heap.size ≤ k := fun k hk => (h.lo k (hv k hk)).2.1
    have hR2 := Kd.R_set hR1 hP1 (by decide) 6 (.slice A1 (tr ++ [x]).length c1)
    have hPn := blk_put hP1 6 (.slice A1 (tr ++ [x]).length c1) rfl
    refine ⟨rfl, fun k => (ow k ∨ okp k ∨ w.heap.size ≤ k) ∧ w0.heap.size ≤ k ∧ k < (w1.setCell ⟨Pb, 6, none⟩ (.slice A1 (tr ++ [x]).length c1)).heap.size, ⟨?_, h.pb, h.cb, ?_, ?_, _, hPn, ?_⟩, ?_, ?_⟩
    · exact h.wo.ste hSt (fun k hk e => e.elim (fun e => hk (h.lo k (hv k e)).1) (fun e => hk (by rw [e]; exact h.cb))) (fun k e => e.elim (hvw k) (fun e => by rw [e]; exact h.pb))
    · rintro ⟨e | e | e, _, _⟩
      · exact nb e
      · exact (hok Pb e).2.2 rfl
      · have := blk_lt hPb; omega
    · rintro k ⟨e, e1, e2⟩
      refine ⟨?_, e1, e2⟩
      rcases e with e | e | e
      · exact (h.lo k e).1
      · exact (hok k e).1
      · exact h.wo.zero e
    · exact Kd.R_mono (Kd.R_bound hR2) (fun k hk => ⟨hk.1, hk.2.1, hk.2.2.1⟩)
    · exact hSt.mono (fun k hk => hk.elim (fun e => .inl (.inr (.inl (hv k e)))) (fun e => .inl (.inr (.inr e))))
    · exact fun k hk => hk.1
end Go.Proofs.YtgopddjmmoohdaaGreatDoor

/- Tags: an operation adds one at most. Plain law. -/
set_option linter.unusedSimpArgs false
set_option linter.unusedVariables false
namespace Go.Proofs.YtgopddjmmoohdaaGreatDoor
open Go.RowKit Go.Proofs.YtgopddjmmoohdaaGreatDoorW.PrintWords Go.Proofs.YtgopddjmmoohdaaGreatDoorW.PrintLast Go.Proofs.YtgopddjmmoohdaaGreatDoor.PPlaySilent

/-- How many tags there are. -/
def gsum (g : List Sg) : Nat := (g.map (fun s => s.tags.length)).sum
theorem gsum_set : ∀ {g : List Sg} {j : Nat} {s : Sg} (s' : Sg), g[j]? = some s → gsum (g.set j s') + s.tags.length = gsum g + s'.tags.length
  | [], j, s, s', h => by simp at h
  | a :: g, 0, s, s', h => by
    simp at h
    subst h
    simp [gsum]; omega
  | a :: g, j + 1, s, s', h => by
    simp at h
    have := gsum_set s' h
    simp [gsum] at this ⊢
    omega
theorem gsum_mem : ∀ {g : List Sg} {s : Sg}, s ∈ g → s.tags.length ≤ gsum g
  | a :: g, s, h => by
    rcases List.mem_cons.1 h with rfl | h
    · simp [gsum]
    · have := gsum_mem h; simp [gsum] at this ⊢; omega
theorem SgOk.of_sum {g : List Sg} (h : gsum g ≤ 100000) : SgOk g := ⟨fun s hs => Nat.le_trans (gsum_mem hs) h, Nat.le_trans h (by decide)⟩
theorem sgF_get {g : List Sg} {id : Int} {s : Sg} (h : sgF g id = some s) : g[(id - 1).toNat]? = some s := by
  unfold sgF at h
  split at h
  · exact h
  · cases h
theorem giveLoop_sum {rec : List Sg → Int → List Sg × List Int} (hr : ∀ g id, gsum (rec g id).1 + (rec g id).2.length ≤ gsum g) (id : Int) (g : List Sg) (out : List Int) : ∀ j, gsum (giveLoop rec id g out j).1 + (giveLoop rec id g out j).2.length ≤ gsum g + out.length
  | 0 => Nat.le_refl _
  | j + 1 => by
    have h := giveLoop_sum hr id g out j
    rw [giveLoop]
    split
    · have := hr (giveLoop rec id g out j).1 ((j + 1 : Nat) : Int)
      simp only [List.length_append]
      omega
    · exact h
theorem giveF_sum : ∀ (n : Nat) (g : List Sg) (id : Int), gsum (giveF n g id).1 + (giveF n g id).2.length ≤ gsum g
  | 0, g, id => by simp [giveF]
  | n + 1, g, id => by
    rw [giveF]
    cases h : sgF g id with
    | none => simp
    | some s =>
      simp only
      split
      · simp
      · have h1 := giveLoop_sum (giveF_sum n) id (g.set (id - 1).toNat ⟨true, s.fol, []⟩) s.tags g.length
        have h2 := gsum_set ⟨true, s.fol, []⟩ (sgF_get h)
        simp only [List.length_nil, Nat.add_zero] at h2
        omega
theorem addG_sum (g : List Sg) (id tag : Int) : gsum (addG g id tag) ≤ gsum g + 1 := by
  unfold addG
  cases h : sgF g id with
  | none => simp
  | some s =>
    simp only
    split
    · omega
    · have := gsum_set { s with tags := s.tags ++ [tag] } (sgF_get h)
      simp only [List.length_append, List.length_singleton] at this
      omega
theorem makeG_sum (g : List Sg) (fol : List Int) : gsum (makeG g fol).1 = gsum g := by
  unfold makeG
  split
  · rfl
  · split
    · rfl
    · simp [gsum]
theorem doA_sum {calls : Nat} {st : St} (x : S39) (a b c : Int) : gsum (doA calls st x a b c).1.sg ≤ gsum st.sg + 1 := by
  have hm : (mkW st x).1.sg = st.sg := by
    unfold mkW
    split
    · rfl
    · split <;> rfl
  have ha : gsum (abortW st x.f1).1.sg ≤ gsum st.sg := by
    unfold abortW
    split
    · exact Nat.le_refl _
    · have := giveF_sum st.sg.length st.sg x.f1
      exact Nat.le_trans (Nat.le_add_right _ _) this
  have hl : gsum (listenW calls st a x).1.sg ≤ gsum st.sg + 1 := by
    unfold listenW
    split
    · exact Nat.le_succ _
    · split
      · exact Nat.le_succ _
      · split
        · exact Nat.le_succ _
        · exact addG_sum _ _ _
  have hu : (unW st a x).1.sg = st.sg := by
    unfold unW
    split
    · rfl
    · split <;> rfl
  have he : (evW st b x).1.sg = st.sg := by
    unfold evW
    split
    · rfl
    · split
      · rfl
      · split
        · rfl
        · split <;> rfl
  have hf : (flagW st a x.f0).1.sg = st.sg := by
    unfold flagW
    split
    · rfl
    · split
      · rfl
      · split <;> rfl
  unfold Go.Proofs.YtgopddjmmoohdaaGreatDoor.doA
  by_cases e1 : x.f0 = 1
  · rw [if_pos e1]; rw [hm]; exact Nat.le_succ _
  rw [if_neg e1]
  by_cases e2 : x.f0 = 2
  · rw [if_pos e2]; exact Nat.le_succ _
  rw [if_neg e2]
  by_cases e3 : x.f0 = 3
  · rw [if_pos e3]; exact Nat.le_succ _
  rw [if_neg e3]
  by_cases e4 : x.f0 = 4
  · rw [if_pos e4]; exact Nat.le_succ _
  rw [if_neg e4]
  by_cases e5 : x.f0 = 5
  · rw [if_pos e5]; exact Nat.le_succ _
  rw [if_neg e5]
  by_cases e6 : x.f0 = 6
  · rw [if_pos e6]; exact Nat.le_succ _
  rw [if_neg e6]
  by_cases e7 : x.f0 = 7
  · rw [if_pos e7]; exact Nat.le_succ _
  rw [if_neg e7]
  by_cases e8 : x.f0 = 8
  · rw [if_pos e8]; exact Nat.le_trans (Nat.le_of_eq (makeG_sum _ _)) (Nat.le_succ _)
  rw [if_neg e8]
  by_cases e9 : x.f0 = 9
  · rw [if_pos e9]; exact Nat.le_trans ha (Nat.le_succ _)
  rw [if_neg e9]
  by_cases e10 : x.f0 = 10
  · rw [if_pos e10]; exact hl
  rw [if_neg e10]
  by_cases e11 : x.f0 = 11
  · rw [if_pos e11]; rw [hu]; exact Nat.le_succ _
  rw [if_neg e11]
  by_cases e12 : x.f0 = 12
  · rw [if_pos e12]; rw [he]; exact Nat.le_succ _
  rw [if_neg e12]
  by_cases e13 : x.f0 = 13
  · rw [if_pos e13]; exact Nat.le_succ _
  rw [if_neg e13]
  by_cases e17 : x.f0 = 17
  · rw [if_pos e17]; exact Nat.le_succ _
  rw [if_neg e17]
  rw [hf]; exact Nat.le_succ _
theorem doW_sum {calls : Nat} {st : St} (x : S39) (ctx : Int) : gsum (doW calls st x ctx).1.sg ≤ gsum st.sg + 1 := by
  unfold doW
  split
  · exact Nat.le_succ _
  · exact doA_sum x _ _ _
end Go.Proofs.YtgopddjmmoohdaaGreatDoor

/- Ties: a host's shadow root knows its host. Kept by all operations. Plain law. -/
set_option linter.unusedSimpArgs false
set_option linter.unusedVariables false
namespace Go.Proofs.YtgopddjmmoohdaaGreatDoor
open Go.RowKit Go.Proofs.YtgopddjmmoohdaaGreatDoorW.PrintWords Go.Proofs.YtgopddjmmoohdaaGreatDoorW.PrintLast Go.Proofs.YtgopddjmmoohdaaGreatDoor.PPlaySilent

/-- A host's shadow root knows its host. -/
def TieOk (l : List S115) : Prop := ∀ p x, nodeF l p = some x → x.f3 ≠ 0 → ∃ y, nodeF l x.f3 = some y ∧ y.f0 = 3 ∧ y.f2 = p
def tk (y : S115) : Int × Int × Int := (y.f0, y.f2, y.f3)
theorem TieOk.same {l l' : List S115} (h : TieOk l) (hs : ∀ k, (nodeF l' k).map tk = (nodeF l k).map tk) : TieOk l' := by
  intro p x hx h3
  have h1 := hs p
  rw [hx] at h1
  obtain ⟨x0, hx0, e0⟩ := Option.map_eq_some_iff.1 h1.symm
  simp only [tk, Prod.mk.injEq] at e0
  obtain ⟨y0, hy0, e1, e2⟩ := h p x0 hx0 (by rw [e0.2.2]; exact h3)
  have h2 := hs x.f3
  rw [← e0.2.2, hy0] at h2
  obtain ⟨y, hy, e3⟩ := Option.map_eq_some_iff.1 h2
  simp only [tk, Prod.mk.injEq] at e3
  exact ⟨y, by rw [← e0.2.2]; exact hy, by rw [e3.1]; exact e1, by rw [e3.2.1]; exact e2⟩
theorem TieOk.nil : TieOk [] := fun p x h => by simp [nodeF] at h
theorem TieOk.set_same {l : List S115} (h : TieOk l) {id : Int} {x x' : S115} (hx : nodeF l id = some x) (hs : tk x' = tk x) : TieOk (l.set (id - 1).toNat x') :=
  h.same (fun k => by
    rw [nodeF_set hx]
    split
    · rename_i e; subst e; rw [hx]; simp [hs]
    · rfl)
theorem TieOk.name {l : List S115} (h : TieOk l) (id : Int) (s : ByteArray) : TieOk (nameF l id s) := by
  unfold nameF
  split
  · exact h
  · rename_i x hx
    split
    · split
      · exact h.set_same hx rfl
      · exact h
    · exact h
theorem TieOk.want {l : List S115} (h : TieOk l) (id : Int) (s : ByteArray) : TieOk (wantF l id s) := by
  unfold wantF
  split
  · exact h
  · rename_i x hx
    split
    · split
      · exact h.set_same hx rfl
      · exact h
    · exact h
theorem TieOk.make {l : List S115} (h : TieOk l) (k m : Int) (sl : Bool) (nm wt : ByteArray) : TieOk (makeF l k m sl nm wt) := by
  unfold makeF
  split
  · split
    · intro p x hx h3
      rw [nodeF_append] at hx
      split at hx
      · obtain rfl := Option.some.inj hx
        exact absurd rfl h3
      · obtain ⟨y, hy, e1, e2⟩ := h p x hx h3
        have := nodeF_range hy
        exact ⟨y, by rw [nodeF_append, if_neg (by omega)]; exact hy, e1, e2⟩
    · exact h
  · exact h
theorem TieOk.put {l : List S115} (h : TieOk l) (p : Int) (ks : List Int) : TieOk (putF l p ks) := by
  cases hx : nodeF l p with
  | none => unfold putF; rw [hx]; exact h
  | some x =>
    cases h1 : okIds l [] ks with
    | false => unfold putF; rw [hx]; simp only; rw [h1]; exact h
    | true =>
      cases h2 : okKids l p ks with
      | false => unfold putF; rw [hx]; simp only; rw [h1, h2]; exact h
      | true =>
        refine h.same (fun k => ?_)
        rw [(putF_nodes hx h1 h2).2 k, Option.map_map]
        rfl
theorem TieOk.tie {l : List S115} (h : TieOk l) (a b : Int) : TieOk (tieF l a b) := by
  cases hx : nodeF l a with
  | none => rw [tieF_none b hx]; exact h
  | some x =>
    cases hy : nodeF l b with
    | none => rw [tieF_none2 hx hy]; exact h
    | some y =>
      rw [tieF_some hx hy]
      split
      case isFalse => exact h
      rename_i c1
      split
      case isFalse => exact h
      rename_i c2
      split
      case isFalse => exact h
      rename_i c3
      split
      case isFalse => exact h
      rename_i c4
      split
      case isTrue => exact h
      rename_i c5
      have hab : a ≠ b := fun e => by subst e; rw [hx] at hy; obtain rfl := Option.some.inj hy; omega
      have hra := nodeF_range hx
      have hrb := nodeF_range hy
      have hy' : nodeF (l.set (a - 1).toNat { x with f3 := b }) b = some y := by rw [nodeF_set hx, if_neg (Ne.symm hab)]; exact hy
      have hN : ∀ k, nodeF ((l.set (a - 1).toNat { x with f3 := b }).set (b - 1).toNat { y with f2 := a }) k = if k = b then some { y with f2 := a } else if k = a then some { x with f3 := b } else nodeF l k := fun k => by
        rw [nodeF_set hy', nodeF_set hx]
      generalize (l.set (a - 1).toNat { x with f3 := b }).set (b - 1).toNat { y with f2 := a } = l' at hN
      have key : ∀ (p : Int) (z : S115), 1 ≤ p → nodeF l p = some z → z.f3 ≠ 0 → ∃ w, nodeF l' z.f3 = some w ∧ w.f0 = 3 ∧ w.f2 = p := fun p z hp hz h3 => by
        obtain ⟨q, hq, e1, e2⟩ := h p z hz h3
        rw [hN]
        by_cases k1 : z.f3 = b
        · rw [k1, hy] at hq; obtain rfl := Option.some.inj hq; omega
        · by_cases k2 : z.f3 = a
          · rw [k2, hx] at hq; obtain rfl := Option.some.inj hq; omega
          · rw [if_neg k1, if_neg k2]; exact ⟨q, hq, e1, e2⟩
      intro p z hz h3
      rw [hN] at hz
      split at hz
      · rename_i e
        obtain rfl := Option.some.inj hz
        rw [e]
        exact key b y hrb.1 hy h3
      · split at hz
        · rename_i e
          obtain rfl := Option.some.inj hz
          exact ⟨{ y with f2 := a }, by rw [hN, if_pos rfl], c2, e.symm⟩
        · exact key p z (nodeF_range hz).1 hz h3
theorem TieOk.leave {l : List S115} (h : TieOk l) (node : Int) : TieOk (leaveF l node) := by
  unfold leaveF
  split
  · exact h.put _ _
  · exact h
theorem TieOk.out {l : List S115} (h : TieOk l) (node : Int) : TieOk (outF l node) := by
  unfold outF
  split
  · exact h.put _ _
  · exact h.leave _
theorem TieOk.bef {l : List S115} (h : TieOk l) (node parent child : Int) : TieOk (befF l node parent child) := by
  unfold befF
  split
  · exact (h.out node).put _ _
  · exact h
theorem TieOk.remove {l : List S115} (h : TieOk l) (node parent : Int) : TieOk (removeF l node parent) := by
  unfold removeF
  repeat' split
  all_goals first | exact h | exact h.leave _
theorem TieOk.att {l : List S115} (h : TieOk l) (a m : Int) : TieOk (attR l a m).1 := by
  unfold attR
  repeat' split
  all_goals first | exact h | exact (h.make _ _ _ _ _).tie _ _ | exact h.make _ _ _ _ _
theorem TieOk.doA {calls : Nat} {st : St} (h : TieOk st.l) (x : S39) (a b c : Int) : TieOk (doA calls st x a b c).1.l := by
  have hm : TieOk (mkW st x).1.l := by
    unfold mkW
    split
    · exact h
    · split
      · exact h.make _ _ _ _ _
      · exact h
  have ha : (abortW st x.f1).1.l = st.l := by unfold abortW; split <;> rfl
  have hl : (listenW calls st a x).1.l = st.l := by
    unfold listenW
    split
    · rfl
    · split
      · rfl
      · split <;> rfl
  have hu : (unW st a x).1.l = st.l := by
    unfold unW
    split
    · rfl
    · split <;> rfl
  have he : (evW st b x).1.l = st.l := by
    unfold evW
    split
    · rfl
    · split
      · rfl
      · split
        · rfl
        · split <;> rfl
  have hf : (flagW st a x.f0).1.l = st.l := by
    unfold flagW
    split
    · rfl
    · split
      · rfl
      · split <;> rfl
  unfold Go.Proofs.YtgopddjmmoohdaaGreatDoor.doA
  by_cases e1 : x.f0 = 1
  · rw [if_pos e1]; exact hm
  rw [if_neg e1]
  by_cases e2 : x.f0 = 2
  · rw [if_pos e2]; exact h.want _ _
  rw [if_neg e2]
  by_cases e3 : x.f0 = 3
  · rw [if_pos e3]; exact h.name _ _
  rw [if_neg e3]
  by_cases e4 : x.f0 = 4
  · rw [if_pos e4]; exact h.bef _ _ _
  rw [if_neg e4]
  by_cases e5 : x.f0 = 5
  · rw [if_pos e5]; exact h.bef _ _ _
  rw [if_neg e5]
  by_cases e6 : x.f0 = 6
  · rw [if_pos e6]; exact h.remove _ _
  rw [if_neg e6]
  by_cases e7 : x.f0 = 7
  · rw [if_pos e7]; exact h.att _ _
  rw [if_neg e7]
  by_cases e8 : x.f0 = 8
  · rw [if_pos e8]; exact h
  rw [if_neg e8]
  by_cases e9 : x.f0 = 9
  · rw [if_pos e9]; rw [ha]; exact h
  rw [if_neg e9]
  by_cases e10 : x.f0 = 10
  · rw [if_pos e10]; rw [hl]; exact h
  rw [if_neg e10]
  by_cases e11 : x.f0 = 11
  · rw [if_pos e11]; rw [hu]; exact h
  rw [if_neg e11]
  by_cases e12 : x.f0 = 12
  · rw [if_pos e12]; rw [he]; exact h
  rw [if_neg e12]
  by_cases e13 : x.f0 = 13
  · rw [if_pos e13]; exact h
  rw [if_neg e13]
  by_cases e17 : x.f0 = 17
  · rw [if_pos e17]; exact h.put _ _
  rw [if_neg e17]
  rw [hf]; exact h
/-- Kept by Do. -/
theorem TieOk.do {calls : Nat} {st : St} (h : TieOk st.l) (x : S39) (ctx : Int) : TieOk (doW calls st x ctx).1.l := by
  unfold doW
  split
  · exact h
  · exact h.doA x _ _ _
end Go.Proofs.YtgopddjmmoohdaaGreatDoor
