/- The texts of this seat, joined: part 8 of 25. -/
import Derived.Test.YtgopddjmmoohdaaGreatDoorSl01
import Derived.Test.YtgopddjmmoohdaaGreatDoorSl07
import Derived.Test.YtgopddjmmoohdaaGreatDoorSl04
import Derived.MapKept
import Derived.RangeFuncRecord
/- kin over forests: a node's call, its place among its parent's children, the next one. -/
set_option linter.unusedSimpArgs false
set_option linter.unusedVariables false
namespace Go.Proofs.YtgopddjmmoohdaaGreatDoor
open Go.RowKit Go.Proofs.YtgopddjmmoohdaaGreatDoorW.PrintWords Go.Proofs.YtgopddjmmoohdaaGreatDoorW.PrintLast Go.Proofs.YtgopddjmmoohdaaGreatDoor.PPlaySilent

/-- A node; the zero node: there is none. -/
def nodeD (l : List S115) (id : Int) : S115 := (nodeF l id).getD z115
def isN (l : List S115) (id : Int) : Bool := (nodeF l id).isSome
theorem nodeD_some {l : List S115} {id : Int} {x : S115} (h : nodeF l id = some x) : nodeD l id = x := by rw [nodeD, h]; rfl
theorem nodeD_none {l : List S115} {id : Int} (h : nodeF l id = none) : nodeD l id = z115 := by rw [nodeD, h]; rfl
theorem C_none (w : World) : (Kd.int .i64).C w none 0 [] := ⟨rfl, by simp, fun h => absurd h (by simp)⟩
theorem nodeD_kids {l : List S115} (hk : kidsOk l) (id : Int) : (nodeD l id).f8.length ≤ 100000 := by
  cases hn : nodeF l id with
  | none => rw [nodeD_none hn]; exact Nat.zero_le _
  | some x => rw [nodeD_some hn]; obtain ⟨j, rfl, hj, hx⟩ := nodeF_some hn; exact hk x (List.mem_of_getElem? hx)
theorem node_call (F : Nat) (id : Int) (l : List S115) (w : World) (h : FoR w F l) (hk : kidsOk l) :
    Calls Tryz.prog 57 #[.pointer (some ⟨F, 0, none⟩), .int .i64 id] w fun e w' => ∃ A c, e = .returned (.tuple #[nodeV (nodeD l id) A c, .bool (isN l id)]) ∧ (nodeD l id).f8.length ≤ c ∧ (Kd.int .i64).C w' A (nodeD l id).f8.length (nodeD l id).f8 ∧ Below w.heap.size w w' := by
  cases hn : nodeF l id with
  | none =>
    rw [nodeD_none hn, show isN l id = false by rw [isN, hn]; rfl]
    refine (node_none F id l w h hn).mono ?_
    rintro e w' ⟨rfl, hb⟩
    exact ⟨none, 0, rfl, Nat.le_refl _, C_none _, hb⟩
  | some x =>
    rw [nodeD_some hn, show isN l id = true by rw [isN, hn]; rfl]
    obtain ⟨j, rfl, hj, hx⟩ := nodeF_some hn
    exact node_some F j x l w h hx (hk x (List.mem_of_getElem? hx))
theorem index_any (xs : List Int) (x : Int) (A : Option Addr) (c : Nat) (w : World) (h : (Kd.int .i64).C w A xs.length xs) (hl : xs.length ≤ 9223372036854775807) :
    Calls Tryz.prog 70 #[.slice A xs.length c, .int .i64 x] w fun e w' => e = .returned (.int .i64 (Lib.idxOf xs x)) ∧ w' = w := by
  rcases Nat.eq_zero_or_pos xs.length with h0 | h0
  · obtain rfl : xs = [] := List.eq_nil_of_length_eq_zero h0
    exact Tryz.slices_Index_int_empty A c x w
  · obtain ⟨ad, rfl, _⟩ := h.2.2 h0
    obtain ⟨b, off, rfl, hcells⟩ := ints_cells h h0
    have := Tryz.slices_Index_int b off xs.length c xs x w (Nat.le_refl _) hl hcells
    rwa [List.take_length] at this
/-- A node's parent's children, and its place among them; below 0: it has no parent. -/
def kidsF (l : List S115) (id : Int) : List Int × Int :=
  if isN l id = false then ([], -1) else if (nodeD l id).f1 = 0 then ([], -1) else ((nodeD l (nodeD l id).f1).f8, Lib.idxOf (nodeD l (nodeD l id).f1).f8 id)
set_option maxRecDepth 100000 in
set_option maxHeartbeats 3200000 in
theorem kids_any (F : Nat) (id : Int) (l : List S115) (w : World) (h : FoR w F l) (hk : kidsOk l) :
    Calls Tryz.prog 117 #[.pointer (some ⟨F, 0, none⟩), .int .i64 id] w fun e w' => ∃ A c, e = .returned (.tuple #[.slice A (kidsF l id).1.length c, .int .i64 (kidsF l id).2]) ∧ (kidsF l id).1.length ≤ c ∧ (Kd.int .i64).C w' A (kidsF l id).1.length (kidsF l id).1 ∧ Below w.heap.size w w' := by
  have hn1 := node_call F id l w h hk
  have hn2 := fun W (hW : Below w.heap.size w W) => node_call F (nodeD l id).f1 l W (h.below hW) hk
  have hk2 := nodeD_kids hk (nodeD l id).f1
  have HK := hide_ (show kidsF l id = if isN l id = false then ([], -1) else if (nodeD l id).f1 = 0 then ([], -1) else ((nodeD l (nodeD l id).f1).f8, Lib.idxOf (nodeD l (nodeD l id).f1).f8 id) from rfl)
  simp only [nodeV] at hn1 hn2
  generalize nodeD l (nodeD l id).f1 = y at *
  generalize nodeD l id = x at *
  generalize kidsF l id = r at *
  generalize isN l (x.f1) = b2 at *
  generalize isN l id = b at *
  clear h hk
  cases b with
  | false =>
    replace HK := hide_ (HK.out.trans (if_pos rfl))
    go_enter Tryz.func117, Tryz.ntmps117
    go_wp2_with (go_at_call 57; (with_reducible refine hn1.mono ?_); rintro e w1 ⟨A, c, rfl, -, -, hB⟩)
    go_ret2
    rw [HK.out]
    exact ⟨none, 0, rfl, Nat.le_refl _, C_none _, below_alloc hB _⟩
  | true =>
    replace HK := hide_ (HK.out.trans (if_neg (by simp)))
    by_cases h1 : x.f1 = 0
    · replace HK := hide_ (HK.out.trans (if_pos h1))
      have h1b : (x.f1 == 0) = true := by simp [h1]
      clear h1
      go_enter Tryz.func117, Tryz.ntmps117
      go_wp2_with (go_at_call 57; (with_reducible refine hn1.mono ?_); rintro e w1 ⟨A, c, rfl, -, -, hB⟩)
      go_ret2
      rw [HK.out]
      exact ⟨none, 0, rfl, Nat.le_refl _, C_none _, below_alloc hB _⟩
    · replace HK := hide_ (HK.out.trans (if_neg h1))
      have h1b : (x.f1 == 0) = false := by simp [h1]
      clear h1
      go_enter Tryz.func117, Tryz.ntmps117
      go_wp2_with (first
        | (go_at_call 57; (with_reducible refine hn1.mono ?_); rintro e w1 ⟨A, c, rfl, -, -, hB⟩; have hX1 := blk_new w1 (.cells #[.int .i64 x.f0, .int .i64 x.f1, .int .i64 x.f2, .int .i64 x.f3, .int .i64 x.f4, .bool x.f5, .string x.f6, .string x.f7, .slice A x.f8.length c] 115); have hC1 := below_alloc hB (.cells #[.int .i64 x.f0, .int .i64 x.f1, .int .i64 x.f2, .int .i64 x.f3, .int .i64 x.f4, .bool x.f5, .string x.f6, .string x.f7, .slice A x.f8.length c] 115))
        | (go_at_call 57; (with_reducible refine (hn2 _ hC1).mono ?_); rintro e w2 ⟨A2, c2, rfl, hl2, hC2, hB2⟩; have hX2 := blk_new w2 (.cells #[.int .i64 y.f0, .int .i64 y.f1, .int .i64 y.f2, .int .i64 y.f3, .int .i64 y.f4, .bool y.f5, .string y.f6, .string y.f7, .slice A2 y.f8.length c2] 115); have hCc := below_alloc (below_then hC1 hC1.size hB2) (.cells #[.int .i64 y.f0, .int .i64 y.f1, .int .i64 y.f2, .int .i64 y.f3, .int .i64 y.f4, .bool y.f5, .string y.f6, .string y.f7, .slice A2 y.f8.length c2] 115)))
      clear hn1 hn2 hX1
      generalize hg : w2.heap.size = g at hX2 ⊢
      refine start_ (n := 8) (S := (fun W_ => W_.heap[g]? = some (.cells #[.int .i64 y.f0, .int .i64 y.f1, .int .i64 y.f2, .int .i64 y.f3, .int .i64 y.f4, .bool y.f5, .string y.f6, .string y.f7, .slice A2 y.f8.length c2] 115 (0, 0)))) (ds := []) (bm 8 0) (by kernel_rfl) rfl (by kernel_rfl) hX2 (fun hHeld => ?_)
      refine pu_ 0 (some 30) (bm 8 1) ?_
      refine ta_ 1 (some 31) (bm 8 3) hHeld (fun _ hSw => blk_cell hSw 8) ?_
      refine pu_ 2 (some 32) (bm 8 7) ?_
      refine ta_ 3 (some 33) (bm 8 15) hHeld (fun _ hSw => blk_cell hSw 8) ?_
      refine pu_ 4 (some 34) (bm 8 31) ?_
      refine one_ (i := 5) (N := (some 35)) (bm 8 63) rfl rfl (by kernel_rfl) (by decide) (fun K hK => ?_)
      refine goes_ Tryz.func70 (by kernel_rfl) rfl #[.slice A2 y.f8.length c2, .int .i64 id] (by rfl) rfl rfl (by try simp only [List.map_toArray, List.map_cons, List.map_nil]; first | done | rfl) ?_
      refine (index_any y.f8 id A2 c2 _ (Kd.C_below hC2 (below_drew (below_alloc (Below.refl _ w2) _))) (by omega)).mono ?_
      rintro e w3 ⟨rfl, hw3⟩
      obtain rfl := hw3.symm
      refine ⟨_, rfl, ?_⟩
      refine hK.out _ _ hHeld (fun hHeld => ?_)
      clear hK K
      refine norm_ (a' := ?_) ?_ ?_
      rotate_left
      · show Act.put _ (some 35) _ = _
        simp only [Act.put, List.setIfInBounds_toArray, List.set_cons_zero, List.set_cons_succ]
        rfl
      refine pu_ 6 (some 4) (bm 8 127) ?_
      refine pu_ 7 (some 5) (bm 8 255) ?_
      refine done_ (by kernel_rfl) ?_
      go_wp2
      go_ret2
      rw [HK.out]
      exact ⟨A2, c2, rfl, hl2, Kd.C_below hC2 (below_drew (below_alloc (Below.refl _ w2) _)), below_drew hCc⟩
theorem ints_at' {w : World} {A : Option Addr} {xs : List Int} {j : Nat} {k : Int} (h : (Kd.int .i64).C w A xs.length xs) (hk : xs[j]? = some k) : ∃ b o, A = some ⟨b, o, none⟩ ∧ w.cell? ⟨b, o + j, none⟩ = some (.int .i64 k) := by
  have hj := (List.getElem?_eq_some_iff.1 hk).1
  obtain ⟨ad, hA, -⟩ := h.2.2 (by omega)
  subst hA
  obtain ⟨b, o, rfl, hc⟩ := ints_cells h (by omega)
  refine ⟨b, o, rfl, ?_⟩
  have := hc j hj
  rwa [List.getD_eq_getElem?_getD, hk] at this
/-- The next one of a node's parent's children; 0: there is none. -/
def nextF (l : List S115) (id : Int) : Int := if 0 ≤ (kidsF l id).2 then if (kidsF l id).2 + 1 < (kidsF l id).1.length then (kidsF l id).1.getD ((kidsF l id).2 + 1).toNat 0 else 0 else 0
theorem idxFrom_cases (x : Int) : ∀ (zs : List Int) (i : Nat), (Lib.idxFrom zs x i = -1 ∧ x ∉ zs) ∨ ∃ k, zs[k]? = some x ∧ Lib.idxFrom zs x i = ((i + k : Nat) : Int)
  | [], i => .inl ⟨rfl, by simp⟩
  | z :: zs, i => by
    by_cases h : z = x
    · exact .inr ⟨0, by simp [h], by simp [Lib.idxFrom, h]⟩
    · have e : Lib.idxFrom (z :: zs) x i = Lib.idxFrom zs x (i + 1) := by simp [Lib.idxFrom, h]
      rw [e]
      rcases idxFrom_cases x zs (i + 1) with ⟨h1, h2⟩ | ⟨k, h1, h2⟩
      · exact .inl ⟨h1, by simp [h2, Ne.symm h]⟩
      · exact .inr ⟨k + 1, by simpa using h1, by rw [h2, show i + 1 + k = i + (k + 1) by omega]⟩
theorem idxOf_cases (xs : List Int) (x : Int) : (Lib.idxOf xs x = -1 ∧ x ∉ xs) ∨ ∃ k : Nat, xs[k]? = some x ∧ Lib.idxOf xs x = k := by
  rcases idxFrom_cases x xs 0 with h | ⟨k, h1, h2⟩
  · exact .inl h
  · exact .inr ⟨k, h1, by rw [Lib.idxOf, h2, Nat.zero_add]⟩
theorem idxOf_range (xs : List Int) (x : Int) : -1 ≤ Lib.idxOf xs x ∧ Lib.idxOf xs x < xs.length := by
  rcases idxOf_cases xs x with ⟨h, _⟩ | ⟨k, h1, h2⟩
  · rw [h]; omega
  · have := (List.getElem?_eq_some_iff.1 h1).1
    rw [h2]; omega
theorem kidsF_range {l : List S115} (hk : kidsOk l) (id : Int) : (kidsF l id).1.length ≤ 100000 ∧ -1 ≤ (kidsF l id).2 ∧ (kidsF l id).2 < (kidsF l id).1.length := by
  unfold kidsF
  split
  · exact ⟨by simp, by simp, by simp⟩
  · split
    · exact ⟨by simp, by simp, by simp⟩
    · have := idxOf_range (nodeD l (nodeD l id).f1).f8 id
      exact ⟨nodeD_kids hk _, this.1, this.2⟩
set_option maxRecDepth 100000 in
set_option maxHeartbeats 1600000 in
theorem next_any (F : Nat) (id : Int) (l : List S115) (w : World) (h : FoR w F l) (hk : kidsOk l) :
    Calls Tryz.prog 67 #[.pointer (some ⟨F, 0, none⟩), .int .i64 id] w fun e w' => e = .returned (.int .i64 (nextF l id)) ∧ Below w.heap.size w w' := by
  have hn := kids_any F id l w h hk
  obtain ⟨r1, r2, r3⟩ := kidsF_range hk id
  have HN := hide_ (show nextF l id = if 0 ≤ (kidsF l id).2 then if (kidsF l id).2 + 1 < (kidsF l id).1.length then (kidsF l id).1.getD ((kidsF l id).2 + 1).toNat 0 else 0 else 0 from rfl)
  generalize nextF l id = v at *
  generalize kidsF l id = r at *
  obtain ⟨xs, i⟩ := r
  simp only at hn r1 r2 r3 HN
  clear h hk
  by_cases h0 : 0 ≤ i
  · replace HN := hide_ (HN.out.trans (if_pos h0))
    obtain ⟨j, rfl⟩ : ∃ j : Nat, i = j := ⟨i.toNat, by omega⟩
    by_cases h1 : (j : Int) + 1 < xs.length
    · replace HN := hide_ (HN.out.trans (if_pos h1))
      obtain ⟨k, hk⟩ : ∃ k, xs[j + 1]? = some k := ⟨_, List.getElem?_eq_getElem (by omega)⟩
      have HV := hide_ (show v = k by rw [HN.out, show ((j : Int) + 1).toNat = j + 1 by omega, List.getD_eq_getElem?_getD, hk]; rfl)
      go_enter Tryz.func67, Tryz.ntmps67
      go_wp2_with (go_at_call 117; refine hn.mono ?_; rintro e w1 ⟨A, c, rfl, hc, hC, hB⟩; obtain ⟨b, o, rfl, hcell⟩ := ints_at' hC hk; have hj1 : (j : Int) + 1 < (xs.length : Int) := h1)
      go_ret
      exact ⟨by rw [HV.out]; rfl, hB⟩
    · replace HN := hide_ (HN.out.trans (if_neg h1))
      go_enter Tryz.func67, Tryz.ntmps67
      go_wp2_with (go_at_call 117; refine hn.mono ?_; rintro e w1 ⟨A, c, rfl, hc, hC, hB⟩)
      go_ret
      exact ⟨by rw [HN.out]; rfl, hB⟩
  · replace HN := hide_ (HN.out.trans (if_neg h0))
    go_enter Tryz.func67, Tryz.ntmps67
    go_wp2_with (go_at_call 117; refine hn.mono ?_; rintro e w1 ⟨A, c, rfl, hc, hC, hB⟩)
    go_ret
    exact ⟨by rw [HN.out]; rfl, hB⟩
/-- How many of a kind there are in a list. -/
def cntL (l : List S115) (kind : Int) (ks : List Int) : Nat := (ks.filter (fun k => isN l k && (nodeD l k).f0 == kind)).length
def countF (l : List S115) (id kind : Int) : Nat := cntL l kind (nodeD l id).f8
theorem cntL_le (l : List S115) (kind : Int) (ks : List Int) : cntL l kind ks ≤ ks.length := List.length_filter_le _ _
theorem cntL_step {l : List S115} {kind : Int} {ks : List Int} {j : Nat} {k : Int} (h : ks[j]? = some k) : cntL l kind (ks.take (j + 1)) = cntL l kind (ks.take j) + (if (isN l k && (nodeD l k).f0 == kind) = true then 1 else 0) := by
  rw [List.take_add_one, h, cntL, List.filter_append, List.length_append]
  simp only [Option.toList, List.filter_cons, List.filter_nil, cntL]
  split <;> simp
set_option maxRecDepth 100000 in
set_option maxHeartbeats 1600000 in
theorem count_any (F : Nat) (id kind : Int) (l : List S115) (w : World) (h : FoR w F l) (hk : kidsOk l) :
    Calls Tryz.prog 154 #[.pointer (some ⟨F, 0, none⟩), .int .i64 id, .int .i64 kind] w fun e w' => e = .returned (.int .i64 (countF l id kind)) ∧ Below w.heap.size w w' := by
  have hn1 := node_call F id l w h hk
  have hn2 := fun k W (hW : Below w.heap.size w W) => node_call F k l W (h.below hW) hk
  have hk1 := nodeD_kids hk id
  have HC0 := hd_ (show countF l id kind = cntL l kind (nodeD l id).f8 from rfl)
  have HCS := hd_ (fun (j : Nat) (k : Int) h => cntL_step (l := l) (kind := kind) (ks := (nodeD l id).f8) (j := j) (k := k) h)
  have HCL := hd_ (fun (j : Nat) => Nat.le_trans (cntL_le l kind ((nodeD l id).f8.take j)) (List.length_take_le _ _))
  generalize countF l id kind = r at *
  simp only [nodeV] at hn1 hn2
  generalize nodeD l id = x at *
  generalize isN l id = b at *
  clear h hk
  go_enter Tryz.func154, Tryz.ntmps154
  go_wp2_with (go_at_call 57; (with_reducible refine hn1.mono ?_); rintro e w1 ⟨A, c, rfl, hlc, hC, hB⟩; have hX1 := blk_new w1 (.cells #[.int .i64 x.f0, .int .i64 x.f1, .int .i64 x.f2, .int .i64 x.f3, .int .i64 x.f4, .bool x.f5, .string x.f6, .string x.f7, .slice A x.f8.length c] 115); have hC1 := below_alloc hB (.cells #[.int .i64 x.f0, .int .i64 x.f1, .int .i64 x.f2, .int .i64 x.f3, .int .i64 x.f4, .bool x.f5, .string x.f6, .string x.f7, .slice A x.f8.length c] 115); have hCC := Kd.C_below hC (below_alloc (Below.refl _ w1) (.cells #[.int .i64 x.f0, .int .i64 x.f1, .int .i64 x.f2, .int .i64 x.f3, .int .i64 x.f4, .bool x.f5, .string x.f6, .string x.f7, .slice A x.f8.length c] 115)); have z8 := (blk_cell hX1 8).trans rfl)
  clear z8
  generalize w1.alloc (.cells #[.int .i64 x.f0, .int .i64 x.f1, .int .i64 x.f2, .int .i64 x.f3, .int .i64 x.f4, .bool x.f5, .string x.f6, .string x.f7, .slice A x.f8.length c] 115) = w2 at *
  go_loopw [9, 11, 12, 13, 23] (fun m _ _ _ iv wr => ∃ j n : Nat, j ≤ x.f8.length ∧ n ≤ j ∧ iv = .int .i64 j ∧ m = .int .i64 n ∧ Hd (cntL l kind (x.f8.take j) = n) ∧ Below w2.heap.size w2 wr) (fun _ _ _ _ iv _ => x.f8.length - (intOf iv).toNat)
  case atStart => exact ⟨0, 0, Nat.zero_le _, Nat.zero_le _, rfl, rfl, ⟨by simp [cntL]⟩, Below.refl _ _⟩
  case round =>
    obtain ⟨j, n, hj, hn, rfl, rfl, hCn, hBr⟩ := hrel
    have hBw := below_then hC1 hC1.size hBr
    by_cases hlt : j < x.f8.length
    · obtain ⟨k, hkk⟩ : ∃ k, x.f8[j]? = some k := ⟨_, List.getElem?_eq_getElem hlt⟩
      obtain ⟨b1, o1, rfl, hcell⟩ := ints_at' (Kd.C_below hCC hBr) hkk
      have hnk := hn2 k wr hBw
      have HS := hd_ (HCS.out j k hkk)
      generalize nodeD l k = y at *
      cases hb : isN l k with
      | false =>
        rw [hb] at hnk HS
        replace HS := hd_ (HS.out.trans (by rw [hCn.out]; rfl : _ = n))
        clear hn1 hn2 hkk HCS HCL HC0
        go_wp2_with (go_at_call 57; (with_reducible refine hnk.mono ?_); rintro e w3 ⟨A3, c3, rfl, -, -, hB3⟩; have hX3 := blk_new w3 (.cells #[.int .i64 y.f0, .int .i64 y.f1, .int .i64 y.f2, .int .i64 y.f3, .int .i64 y.f4, .bool y.f5, .string y.f6, .string y.f7, .slice A3 y.f8.length c3] 115); have z0 := (blk_cell hX3 0).trans rfl; have hC3 := below_alloc (below_then hBr hBr.size hB3) (.cells #[.int .i64 y.f0, .int .i64 y.f1, .int .i64 y.f2, .int .i64 y.f3, .int .i64 y.f4, .bool y.f5, .string y.f6, .string y.f7, .slice A3 y.f8.length c3] 115))
        go_roundw
        case rel => exact ⟨j + 1, n, by omega, by omega, by go_num, rfl, HS, hC3⟩
        case measure => simp [intOf]; omega
      | true =>
        rw [hb] at hnk HS
        clear hn1 hn2 hkk HCS HCL HC0
        by_cases hy : y.f0 = kind
        · have hyb : (y.f0 == kind) = true := by simp [hy]
          replace HS := hd_ (HS.out.trans (by rw [hCn.out, hyb]; rfl : _ = n + 1))
          clear hy
          go_wp2_with (go_at_call 57; (with_reducible refine hnk.mono ?_); rintro e w3 ⟨A3, c3, rfl, -, -, hB3⟩; have hX3 := blk_new w3 (.cells #[.int .i64 y.f0, .int .i64 y.f1, .int .i64 y.f2, .int .i64 y.f3, .int .i64 y.f4, .bool y.f5, .string y.f6, .string y.f7, .slice A3 y.f8.length c3] 115); have z0 := (blk_cell hX3 0).trans rfl; have hC3 := below_alloc (below_then hBr hBr.size hB3) (.cells #[.int .i64 y.f0, .int .i64 y.f1, .int .i64 y.f2, .int .i64 y.f3, .int .i64 y.f4, .bool y.f5, .string y.f6, .string y.f7, .slice A3 y.f8.length c3] 115))
          go_roundw
          case rel => exact ⟨j + 1, n + 1, by omega, by omega, by go_num, by go_num, HS, hC3⟩
          case measure => simp [intOf]; omega
        · have hyb : (y.f0 == kind) = false := by simp [hy]
          replace HS := hd_ (HS.out.trans (by rw [hCn.out, hyb]; rfl : _ = n))
          clear hy
          go_wp2_with (go_at_call 57; (with_reducible refine hnk.mono ?_); rintro e w3 ⟨A3, c3, rfl, -, -, hB3⟩; have hX3 := blk_new w3 (.cells #[.int .i64 y.f0, .int .i64 y.f1, .int .i64 y.f2, .int .i64 y.f3, .int .i64 y.f4, .bool y.f5, .string y.f6, .string y.f7, .slice A3 y.f8.length c3] 115); have z0 := (blk_cell hX3 0).trans rfl; have hC3 := below_alloc (below_then hBr hBr.size hB3) (.cells #[.int .i64 y.f0, .int .i64 y.f1, .int .i64 y.f2, .int .i64 y.f3, .int .i64 y.f4, .bool y.f5, .string y.f6, .string y.f7, .slice A3 y.f8.length c3] 115))
          go_roundw
          case rel => exact ⟨j + 1, n, by omega, by omega, by go_num, rfl, HS, hC3⟩
          case measure => simp [intOf]; omega
    · have hnr : r = n := by rw [HC0.out, ← hCn.out, List.take_of_length_le (by omega)]
      subst hnr
      clear HCS HCL HC0 hCn
      go_wp2
      go_ret
      exact ⟨rfl, hBw⟩
end Go.Proofs.YtgopddjmmoohdaaGreatDoor

/- Maps keyed by whole numbers: what they hold, a look-up, a store, a deletion. -/
namespace Go.Proofs.YtgopddjmmoohdaaGreatDoor
open Go.RowKit

/-- The first entry of a key: its place, its value. -/
def findG : List (Int × Value) → Int → Nat → Option (Nat × Value)
  | [], _, _ => none
  | p :: r, k, i => if p.1 = k then some (i, p.2) else findG r k (i + 1)
def updG : List (Int × Value) → Int → Value → List (Int × Value)
  | [], k, v => [(k, v)]
  | p :: r, k, v => if p.1 = k then (k, v) :: r else p :: updG r k v
def delG : List (Int × Value) → Int → List (Int × Value)
  | [], _ => []
  | p :: r, k => if p.1 = k then r else p :: delG r k
/-- Block m is a map that holds g. -/
def MapI (w : World) (m : Nat) (g : List (Int × Value)) : Prop :=
  ∃ es clock, w.heap[m]? = some (.map es clock) ∧ es.toList.map (fun e => (e.key, e.val)) = g.map (fun p => (Value.int .i64 p.1, p.2))
theorem findNow_int (k : Int) : ∀ (es : List MapEntry) (g : List (Int × Value)) (i : Nat), es.map (fun e => (e.key, e.val)) = g.map (fun p => (Value.int .i64 p.1, p.2)) → Instr.findNow (.int .i64) (.int .i64 k) es i = some (findG g k i)
  | [], [], i, _ => rfl
  | [], _ :: _, _, h => by simp at h
  | _ :: _, [], _, h => by simp at h
  | e :: es, p :: g, i, h => by
    simp only [List.map_cons, List.cons.injEq, Prod.mk.injEq] at h
    have hs : Instr.sameNow (.int .i64) (.int .i64 k) e.key = some (k == p.1) := by rw [h.1.1]; rfl
    rw [Instr.findNow, hs, findG]
    by_cases hk : p.1 = k
    · rw [if_pos hk, ← hk, beq_self_eq_true, h.1.2]
    · rw [if_neg hk, show (k == p.1) = false from beq_eq_false_iff_ne.2 (Ne.symm hk)]
      exact findNow_int k es g (i + 1) h.2
theorem MapI.lookup {P : Program} {w : World} {m : Nat} {g : List (Int × Value)} (h : MapI w m g) {t kt et : TypeId} (ht : P.underlying t = some (.map kt et)) (hk : P.underlying kt = some (.int .i64)) {z : Value} (hz : (zeroValue et).run P w = .ok z w) (k : Int) :
    (Instr.lookup t (.map (some m)) (.int .i64 k) false).run P w = .ok (((findG g k 0).map (·.2)).getD z) w := by
  obtain ⟨es, clock, hb, he⟩ := h
  have hf := findNow_int k es.toList g 0 he
  have hc := MapKept.run_checkKey (k := .int .i64 k) hk (by simp [MapKept.IsKey]) es.isEmpty 9999 (w := w)
  cases hg : findG g k 0 with
  | none =>
    rw [hg] at hf
    simp [Instr.lookup, run_underlying ht, MapKept.run_getObj_map hb, hc, MapKept.run_findKey hk hf, hz, Result.andThen]
  | some q =>
    obtain ⟨i, v⟩ := q
    rw [hg] at hf
    simp [Instr.lookup, run_underlying ht, MapKept.run_getObj_map hb, hc, MapKept.run_findKey hk hf, Result.andThen]
theorem findG_none {k : Int} : ∀ {g : List (Int × Value)} {i : Nat} (v : Value), findG g k i = none → updG g k v = g ++ [(k, v)]
  | [], _, _, _ => rfl
  | p :: r, i, v, h => by
    rw [findG] at h
    split at h
    · cases h
    · rename_i hp
      rw [updG, if_neg hp, findG_none v h]; rfl
theorem findG_some {k : Int} : ∀ {g : List (Int × Value)} {i j : Nat} {x : Value} (v : Value), findG g k i = some (j, x) → ∃ n, j = i + n ∧ g[n]? = some (k, x) ∧ updG g k v = g.set n (k, v) ∧ delG g k = g.eraseIdx n
  | [], _, _, _, _, h => by simp [findG] at h
  | p :: r, i, j, x, v, h => by
    rw [findG] at h
    split at h
    · rename_i hp
      simp only [Option.some.injEq, Prod.mk.injEq] at h
      refine ⟨0, by omega, by simp [← hp, ← h.2], by rw [updG, if_pos hp]; rfl, by rw [delG, if_pos hp]; rfl⟩
    · rename_i hp
      obtain ⟨n, h1, h2, h3, h4⟩ := findG_some v h
      exact ⟨n + 1, by omega, by simpa using h2, by rw [updG, if_neg hp, h3]; rfl, by rw [delG, if_neg hp, h4]; rfl⟩
theorem findG_del {k : Int} : ∀ {g : List (Int × Value)} {i : Nat}, findG g k i = none → delG g k = g
  | [], _, _ => rfl
  | p :: r, i, h => by
    rw [findG] at h
    split at h
    · cases h
    · rename_i hp
      rw [delG, if_neg hp, findG_del h]
theorem put_map {w : World} {m : Nat} {o : Obj} (h : m < w.heap.size) : (w.putObj m o).heap[m]? = some o := by
  simp [World.putObj, h]
theorem MapI.update {P : Program} {w : World} {m : Nat} {g : List (Int × Value)} (h : MapI w m g) {t kt et : TypeId} (ht : P.underlying t = some (.map kt et)) (hk : P.underlying kt = some (.int .i64)) (k : Int) (v : Value) :
    ∃ es c, (Instr.mapUpdate t (.map (some m)) (.int .i64 k) v).run P w = .ok () (w.putObj m (.map es c)) ∧ MapI (w.putObj m (.map es c)) m (updG g k v) := by
  obtain ⟨es, clock, hb, he⟩ := h
  have hm : m < w.heap.size := (Array.getElem?_eq_some_iff.1 hb).1
  have hf := findNow_int k es.toList g 0 he
  have hc := MapKept.run_checkKey (k := .int .i64 k) hk (by simp [MapKept.IsKey]) false 9999 (w := w)
  cases hg : findG g k 0 with
  | none =>
    rw [hg] at hf
    refine ⟨es.push { key := .int .i64 k, val := v, born := clock }, clock + 1, ?_, _, _, put_map hm, ?_⟩
    · simp [Instr.mapUpdate, run_underlying ht, MapKept.run_getObj_map hb, hc, MapKept.run_findKey hk hf, MapKept.run_setObj_map _ hb, Result.andThen, World.putObj]
    · rw [findG_none v hg]
      simp [he]
  | some q =>
    obtain ⟨i, x⟩ := q
    rw [hg] at hf
    obtain ⟨n, h1, h2, h3, -⟩ := findG_some v hg
    obtain rfl : i = n := by omega
    have hn : i < es.size := by
      have hl : es.toList.length = g.length := by have := congrArg List.length he; simpa using this
      have := (List.getElem?_eq_some_iff.1 h2).1
      simp at hl
      omega
    have hkey : (es[i]?).map (·.key) = some (.int .i64 k) := by
      have := congrArg (fun l => l[i]?) he
      simp only [List.getElem?_map, h2, Option.map_some] at this
      rw [Array.getElem?_toList] at this
      cases hx : es[i]? with
      | none => rw [hx] at this; simp at this
      | some e => rw [hx] at this; simp at this; simp [this.1]
    have hsb : Instr.sameBits 10000 (.int .i64 k) (.int .i64 k) = true := by simp [Instr.sameBits]
    refine ⟨es.modify i fun e => { e with key := .int .i64 k, val := v }, clock, ?_, _, _, put_map hm, ?_⟩
    · simp [Instr.mapUpdate, run_underlying ht, MapKept.run_getObj_map hb, hc, MapKept.run_findKey hk hf, MapKept.run_setObj_map _ hb, Result.andThen, World.putObj, Instr.keyThatStays, hkey, hsb]
    · rw [h3]
      refine List.ext_getElem? (fun j => ?_)
      have hj := congrArg (fun l => l[j]?) he
      simp only [List.getElem?_map] at hj
      simp only [List.getElem?_map, Array.getElem?_toList, Array.getElem?_modify, List.getElem?_set] at hj ⊢
      by_cases e : i = j
      · subst e
        have hgl : i < g.length := (List.getElem?_eq_some_iff.1 h2).1
        simp [hgl, hn]
      · simp only [if_neg e]
        exact hj
theorem eraseIdx_map' {α β : Type} (f : α → β) : ∀ (l : List α) (i : Nat), (l.eraseIdx i).map f = (l.map f).eraseIdx i
  | [], _ => by simp
  | a :: l, 0 => by simp
  | a :: l, i + 1 => by simp [eraseIdx_map' f l i]
theorem MapI.delete {P : Program} {w : World} {m : Nat} {g : List (Int × Value)} (h : MapI w m g) {t kt et : TypeId} (ht : P.underlying t = some (.map kt et)) (hk : P.underlying kt = some (.int .i64)) (k : Int) (ty kt' : TypeId) :
    ∃ es c, (Builtin.delete_ #[t, kt'] ty #[.map (some m), .int .i64 k]).run P w = .ok (.tuple #[]) (w.putObj m (.map es c)) ∧ MapI (w.putObj m (.map es c)) m (delG g k) := by
  obtain ⟨es, clock, hb, he⟩ := h
  have hm : m < w.heap.size := (Array.getElem?_eq_some_iff.1 hb).1
  have hf := findNow_int k es.toList g 0 he
  have hc := MapKept.run_checkKey (k := .int .i64 k) hk (by simp [MapKept.IsKey]) es.isEmpty 9999 (w := w)
  cases hg : findG g k 0 with
  | none =>
    rw [hg] at hf
    refine ⟨es, clock, ?_, _, _, put_map hm, ?_⟩
    · simp [Builtin.delete_, run_underlying ht, MapKept.run_getObj_map hb, hc, MapKept.run_findKey hk hf, MapKept.run_setObj_map _ hb, Result.andThen, World.putObj]
    · rw [findG_del hg]
      exact he
  | some q =>
    obtain ⟨i, x⟩ := q
    rw [hg] at hf
    obtain ⟨n, h1, h2, -, h4⟩ := findG_some (.bool true) hg
    obtain rfl : i = n := by omega
    refine ⟨es.eraseIdxIfInBounds i, clock, ?_, _, _, put_map hm, ?_⟩
    · simp [Builtin.delete_, run_underlying ht, MapKept.run_getObj_map hb, hc, MapKept.run_findKey hk hf, MapKept.run_setObj_map _ hb, Result.andThen, World.putObj]
    · rw [h4]
      have e1 : (es.eraseIdxIfInBounds i).toList = es.toList.eraseIdx i := by simp
      rw [e1, eraseIdx_map', he, eraseIdx_map']
end Go.Proofs.YtgopddjmmoohdaaGreatDoor

/- valid over forests: Host, document, Check. -/
set_option linter.unusedSimpArgs false
set_option linter.unusedVariables false
namespace Go.Proofs.YtgopddjmmoohdaaGreatDoor
open Go.RowKit Go.Proofs.YtgopddjmmoohdaaGreatDoorW.PrintWords Go.Proofs.YtgopddjmmoohdaaGreatDoorW.PrintLast Go.Proofs.YtgopddjmmoohdaaGreatDoor.PPlaySilent

theorem below_put {n l : Nat} (W : World) (hn : n ≤ l) (o : Obj) : Below n W (W.putObj l o) := ⟨rfl, rfl, rfl, by simp, fun k hk => World.putObj_heap_other (by omega)⟩
theorem MapI.below {w w' : World} {m : Nat} {g : List (Int × Value)} (h : MapI w m g) (hb : Below w.heap.size w w') : MapI w' m g := by
  obtain ⟨es, c, h1, h2⟩ := h
  exact ⟨es, c, (hb.block m (Array.getElem?_eq_some_iff.1 h1).1).trans h1, h2⟩
/-- How many entries a map has. -/
def mapN (w : World) (m : Nat) : Nat := match w.heap[m]? with
  | some (.map es _) => es.size
  | _ => 0
theorem MapI.count {w : World} {m : Nat} {g : List (Int × Value)} (h : MapI w m g) : mapN w m = g.length := by
  obtain ⟨es, c, h1, h2⟩ := h
  have := congrArg List.length h2
  rw [mapN, h1]
  simpa using this
theorem nodup_le : ∀ (n : Nat) (l : List Int), l.Nodup → (∀ x ∈ l, 1 ≤ x ∧ x ≤ n) → l.length ≤ n
  | 0, [], _, _ => Nat.le_refl _
  | 0, x :: l, _, h => by have := h x (by simp); omega
  | n + 1, l, hd, h => by
    have h1 := nodup_le n (l.erase ((n + 1 : Nat) : Int)) (hd.erase _) (fun x hx => by
      have hm := List.mem_of_mem_erase hx
      have := h x hm
      have hne : x ≠ ((n + 1 : Nat) : Int) := fun e => by
        rw [e] at hx
        exact (List.Nodup.not_mem_erase hd) hx
      omega)
    have h2 := List.length_erase_of_mem (a := ((n + 1 : Nat) : Int)) (l := l)
    by_cases hm : ((n + 1 : Nat) : Int) ∈ l
    · have := h2 hm; omega
    · rw [List.erase_of_not_mem hm] at h1; omega
theorem findG_mem {k : Int} : ∀ {g : List (Int × Value)} {i j : Nat} {x : Value}, findG g k i = some (j, x) → (k, x) ∈ g
  | [], _, _, _, h => by simp [findG] at h
  | p :: r, i, j, x, h => by
    rw [findG] at h
    split at h
    · rename_i hp
      simp only [Option.some.injEq, Prod.mk.injEq] at h
      simp [← hp, ← h.2]
    · exact List.mem_cons_of_mem _ (findG_mem h)
theorem findG_no {k : Int} : ∀ {g : List (Int × Value)} {i : Nat}, findG g k i = none → ∀ p ∈ g, p.1 ≠ k
  | [], _, _, p, hp => by cases hp
  | q :: r, i, h, p, hp => by
    rw [findG] at h
    split at h
    · cases h
    · rename_i hq
      rcases List.mem_cons.1 hp with rfl | hp
      · exact hq
      · exact findG_no h p hp
theorem root_isN {l : List S115} {b : Int} (h : isN l (rootF l b) = true) : 1 ≤ b ∧ b ≤ l.length := by
  cases hn : nodeF l b with
  | none =>
    rw [rootF, upF_none hn] at h
    have : nodeF l 0 = none := by unfold nodeF; rw [if_neg (by omega)]
    rw [isN, show ([] : List Int).getLastD 0 = 0 from rfl, this] at h
    cases h
  | some x => exact nodeF_range hn
theorem above_self {l : List S115} {a : Int} {x : S115} (h : nodeF l a = some x) : aboveF l a a = true := by
  obtain ⟨j, rfl, hj, hx⟩ := nodeF_some h
  obtain ⟨n, hn⟩ : ∃ n, l.length = n + 1 := ⟨l.length - 1, by omega⟩
  rw [aboveF, decide_eq_true_eq, hn, upF, h]
  simp
/-- Host: the seen ones are left out. -/
def hostB (l : List S115) (a : Int) : Nat → List Int → Int → Bool
  | 0, _, _ => false
  | k + 1, seen, b => if b ∈ seen then false else if aboveF l a b = true then true else if isN l (rootF l b) = false then false else if (nodeD l (rootF l b)).f2 = 0 then false else hostB l a k (seen ++ [b]) (nodeD l (rootF l b)).f2
theorem hostB_seen {l : List S115} {a b : Int} {k : Nat} {seen : List Int} (h : b ∈ seen) : hostB l a k seen b = false := by
  cases k with
  | zero => rfl
  | succ k => rw [hostB, if_pos h]
theorem hostB_new {l : List S115} {a b : Int} {n : Nat} {seen : List Int} (h : b ∉ seen) (hn : seen.length < n) : hostB l a (n - seen.length) seen b = if aboveF l a b = true then true else if isN l (rootF l b) = false then false else if (nodeD l (rootF l b)).f2 = 0 then false else hostB l a (n - (seen ++ [b]).length) (seen ++ [b]) (nodeD l (rootF l b)).f2 := by
  obtain ⟨k, hk⟩ : ∃ k, n - seen.length = k + 1 := ⟨n - seen.length - 1, by omega⟩
  rw [hk, hostB, if_neg h, show n - (seen ++ [b]).length = k by rw [List.length_append]; simp; omega]
theorem hostB_above {l : List S115} {a b : Int} {k : Nat} (h : hostB l a (k + 1) [] b = false) : aboveF l a b = false := by
  rw [hostB, if_neg (by simp)] at h
  split at h
  · cases h
  · simpa using ‹¬ aboveF l a b = true›
set_option maxRecDepth 100000 in
set_option maxHeartbeats 3200000 in
theorem host_any (F : Nat) (a b0 : Int) (l : List S115) (w : World) (h : FoR w F l) (hk : kidsOk l) (he : EndsA l) :
    Calls Tryz.prog 115 #[.pointer (some ⟨F, 0, none⟩), .int .i64 a, .int .i64 b0] w fun e w' => e = .returned (.bool (hostB l a (l.length + 1) [] b0)) ∧ Below w.heap.size w w' := by
  have hF := fun W (hW : Below w.heap.size w W) => h.below hW
  have hab := fun b W (hW : Below w.heap.size w W) => above_any F a b l W (hF W hW) hk (he b)
  have hro := fun b W (hW : Below w.heap.size w W) => root_any F b l W (hF W hW) hk (he b)
  have hnd := fun r W (hW : Below w.heap.size w W) => node_call F r l W (hF W hW) hk
  simp only [nodeV] at hnd
  have hmm := @run_makeMap Tryz.prog
  have hz : ∀ W, (zeroValue 4).run Tryz.prog W = .ok (.bool false) W := Tryz.zeroValue4
  clear h
  go_enter Tryz.func115, Tryz.ntmps115
  go_wp2
  clear hmm
  go_loopw [2, 8, 9] (fun bv _ _ wr => ∃ (b : Int) (g : List (Int × Value)), bv = .int .i64 b ∧ MapI wr w.heap.size g ∧ (∀ p ∈ g, p.2 = .bool true) ∧ (g.map (·.1)).Nodup ∧ (∀ p ∈ g, 1 ≤ p.1 ∧ p.1 ≤ l.length) ∧ Hd (hostB l a (l.length + 1) [] b0 = hostB l a (l.length + 1 - (g.map (·.1)).length) (g.map (·.1)) b) ∧ Below w.heap.size w wr) (fun _ _ _ wr => l.length + 1 - mapN wr w.heap.size)
  case atStart => exact ⟨b0, [], rfl, ⟨#[], 0, alloc_new' rfl, rfl⟩, by simp, by simp, by simp, ⟨rfl⟩, below_alloc (Below.refl _ _) _⟩
  case round =>
    obtain ⟨b, g, rfl, hM, hg1, hg2, hg3, hHB, hB⟩ := hrel
    have hglen : (g.map (·.1)).length < l.length + 1 := Nat.lt_succ_of_le (nodup_le l.length _ hg2 (fun x hx => by
      obtain ⟨p, hp, rfl⟩ := List.mem_map.1 hx
      exact hg3 p hp))
    have hml := hM.count
    have hlk := hM.lookup (P := Tryz.prog) (t := 222) Tryz.underlying222 Tryz.underlying3 (hz wr) b
    cases hf : findG g b 0 with
    | some q =>
      obtain ⟨i, v⟩ := q
      have hmem := findG_mem hf
      obtain rfl : v = .bool true := hg1 _ hmem
      have HG := hd_ (hHB.out.trans (hostB_seen (List.mem_map.2 ⟨_, hmem, rfl⟩)))
      rw [hf] at hlk
      simp only [Option.map_some, Option.getD_some] at hlk
      clear hab hro hnd hM hg1 hg2 hg3 hHB hglen hf hmem
      go_wp2
      go_ret
      exact ⟨by rw [HG.out]; try rfl, hB⟩
    | none =>
      rw [hf] at hlk
      simp only [Option.map_none, Option.getD_none] at hlk
      have hab1 := hab b wr hB
      have HA : Hd (aboveF l a b = decide (a ∈ upF l l.length b)) := ⟨rfl⟩
      have HU := hd_ (findG_none (Value.bool true) hf)
      have HNo := hd_ (findG_no hf)
      have HN1 := hd_ (hHB.out.trans (hostB_new (fun hm => by
        obtain ⟨p, hp, e⟩ := List.mem_map.1 hm
        exact HNo.out p hp e) hglen))
      clear hf hHB hglen
      cases hd : decide (a ∈ upF l l.length b) with
      | true =>
        rw [hd] at hab1 HA
        replace HN1 := hd_ (HN1.out.trans (if_pos HA.out))
        clear hab hro hnd hM hd
        go_wp2_with (go_at_call 143; (with_reducible refine hab1.mono ?_); rintro e w1 ⟨rfl, hB1⟩)
        go_ret
        exact ⟨by rw [HN1.out]; try rfl, below_then hB hB.size hB1⟩
      | false =>
        rw [hd] at hab1 HA
        replace HN1 := hd_ (HN1.out.trans (if_neg (by rw [HA.out]; simp)))
        clear hab hd
        have hro1 := fun W hW => hro b W hW
        have HR : Hd (isN l (rootF l b) = true → 1 ≤ b ∧ b ≤ l.length) := ⟨root_isN⟩
        rw [show (upF l l.length b).getLastD 0 = rootF l b from rfl] at hro1
        generalize rootF l b = r at *
        have hnd1 := fun W hW => hnd r W hW
        have hgn : ¬ isN l r = false → g.length + 1 ≤ l.length := fun hn => by
          have hv := HR.out (by simpa using hn)
          have := nodup_le l.length ((g.map (·.1)) ++ [b]) (by
            rw [List.nodup_append]
            exact ⟨hg2, by simp, fun x hx y hy => by
              simp only [List.mem_singleton] at hy
              subst hy
              obtain ⟨p, hp, rfl⟩ := List.mem_map.1 hx
              exact HNo.out p hp⟩) (fun x hx => by
            rcases List.mem_append.1 hx with hx | hx
            · obtain ⟨p, hp, rfl⟩ := List.mem_map.1 hx
              exact hg3 p hp
            · simp only [List.mem_singleton] at hx
              subst hx
              exact hv)
          simpa using this
        generalize nodeD l r = x at *
        have HREL : Hd (∀ W, MapI W w.heap.size (updG g b (.bool true)) → Below w.heap.size w W → isN l r = true → ∀ b', hostB l a (l.length + 1) [] b0 = hostB l a (l.length + 1 - (g.map (·.1) ++ [b]).length) (g.map (·.1) ++ [b]) b' → ∃ (b : Int) (g : List (Int × Value)), Value.int .i64 b' = .int .i64 b ∧ MapI W w.heap.size g ∧ (∀ p ∈ g, p.2 = .bool true) ∧ (g.map (·.1)).Nodup ∧ (∀ p ∈ g, 1 ≤ p.1 ∧ p.1 ≤ l.length) ∧ Hd (hostB l a (l.length + 1) [] b0 = hostB l a (l.length + 1 - (g.map (·.1)).length) (g.map (·.1)) b) ∧ Below w.heap.size w W) := ⟨fun W hM' hB' hr b' hb' => by
          rw [HU.out] at hM'
          refine ⟨b', _, rfl, hM', ?_, ?_, ?_, ⟨by rw [List.map_append]; exact hb'⟩, hB'⟩
          · intro p hp
            rcases List.mem_append.1 hp with hp | hp
            · exact hg1 p hp
            · simp only [List.mem_singleton] at hp; rw [hp]
          · rw [List.map_append, List.nodup_append]
            exact ⟨hg2, by simp, fun x hx y hy => by
              simp only [List.map_cons, List.map_nil, List.mem_singleton] at hy
              subst hy
              obtain ⟨p, hp, rfl⟩ := List.mem_map.1 hx
              exact HNo.out p hp⟩
          · intro p hp
            rcases List.mem_append.1 hp with hp | hp
            · exact hg3 p hp
            · simp only [List.mem_singleton] at hp; rw [hp]; exact HR.out hr⟩
        cases hb : isN l r with
        | false =>
          simp only [hb] at hnd1
          replace HN1 := hd_ (HN1.out.trans (if_pos hb))
          clear hnd hro hg1 hg2 hg3 hgn HREL hb
          go_wp2_with (first
            | (go_at_call 143; (with_reducible refine hab1.mono ?_); rintro e w1 ⟨rfl, hB1⟩; have hC1 := below_then hB hB.size hB1; obtain ⟨es, c2, hup, hM2⟩ := (hM.below hB1).update (P := Tryz.prog) (t := 222) Tryz.underlying222 Tryz.underlying3 b (.bool true); have hC2 := hC1.trans (below_put w1 (Nat.le_refl _) (.map es c2)))
            | (go_at_call 98; (with_reducible refine (hro1 _ hC2).mono ?_); rintro e w3 ⟨rfl, hB3⟩; have hC3 := below_then hC2 hC2.size hB3)
            | (go_at_call 57; (with_reducible refine (hnd1 _ hC3).mono ?_); rintro e w4 ⟨A, c, rfl, -, -, hB4⟩; have hC4 := below_alloc (below_then hC3 hC3.size hB4) (.cells #[.int .i64 x.f0, .int .i64 x.f1, .int .i64 x.f2, .int .i64 x.f3, .int .i64 x.f4, .bool x.f5, .string x.f6, .string x.f7, .slice A x.f8.length c] 115)))
          go_ret
          exact ⟨by rw [HN1.out]; try rfl, hC4⟩
        | true =>
          simp only [hb] at hnd1
          have hgl := hgn (by rw [hb]; simp)
          replace HN1 := hd_ (HN1.out.trans (if_neg (by rw [hb]; simp)))
          by_cases h2 : x.f2 = 0
          · have h2b : (x.f2 == 0) = true := by simp [h2]
            replace HN1 := hd_ (HN1.out.trans (if_pos h2))
            clear hnd hro hg1 hg2 hg3 hgn HREL hb h2
            go_wp2_with (first
              | (go_at_call 143; (with_reducible refine hab1.mono ?_); rintro e w1 ⟨rfl, hB1⟩; have hC1 := below_then hB hB.size hB1; obtain ⟨es, c2, hup, hM2⟩ := (hM.below hB1).update (P := Tryz.prog) (t := 222) Tryz.underlying222 Tryz.underlying3 b (.bool true); have hC2 := hC1.trans (below_put w1 (Nat.le_refl _) (.map es c2)))
              | (go_at_call 98; (with_reducible refine (hro1 _ hC2).mono ?_); rintro e w3 ⟨rfl, hB3⟩; have hC3 := below_then hC2 hC2.size hB3)
              | (go_at_call 57; (with_reducible refine (hnd1 _ hC3).mono ?_); rintro e w4 ⟨A, c, rfl, -, -, hB4⟩; have hC4 := below_alloc (below_then hC3 hC3.size hB4) (.cells #[.int .i64 x.f0, .int .i64 x.f1, .int .i64 x.f2, .int .i64 x.f3, .int .i64 x.f4, .bool x.f5, .string x.f6, .string x.f7, .slice A x.f8.length c] 115); have hX4 := blk_new w4 (.cells #[.int .i64 x.f0, .int .i64 x.f1, .int .i64 x.f2, .int .i64 x.f3, .int .i64 x.f4, .bool x.f5, .string x.f6, .string x.f7, .slice A x.f8.length c] 115); have z2 := (blk_cell hX4 2).trans rfl))
            go_ret
            exact ⟨by rw [HN1.out]; try rfl, hC4⟩
          · have h2b : (x.f2 == 0) = false := by simp [h2]
            replace HN1 := hd_ (HN1.out.trans (if_neg h2))
            replace hb := hd_ hb
            clear hnd hro hg1 hg2 hg3 hgn h2
            go_wp2_with (first
              | (go_at_call 143; (with_reducible refine hab1.mono ?_); rintro e w1 ⟨rfl, hB1⟩; have hC1 := below_then hB hB.size hB1; obtain ⟨es, c2, hup, hM2⟩ := (hM.below hB1).update (P := Tryz.prog) (t := 222) Tryz.underlying222 Tryz.underlying3 b (.bool true); have hC2 := hC1.trans (below_put w1 (Nat.le_refl _) (.map es c2)))
              | (go_at_call 98; (with_reducible refine (hro1 _ hC2).mono ?_); rintro e w3 ⟨rfl, hB3⟩; have hC3 := below_then hC2 hC2.size hB3)
              | (go_at_call 57; (with_reducible refine (hnd1 _ hC3).mono ?_); rintro e w4 ⟨A, c, rfl, -, -, hB4⟩; have hC4 := below_alloc (below_then hC3 hC3.size hB4) (.cells #[.int .i64 x.f0, .int .i64 x.f1, .int .i64 x.f2, .int .i64 x.f3, .int .i64 x.f4, .bool x.f5, .string x.f6, .string x.f7, .slice A x.f8.length c] 115); have hX4 := blk_new w4 (.cells #[.int .i64 x.f0, .int .i64 x.f1, .int .i64 x.f2, .int .i64 x.f3, .int .i64 x.f4, .bool x.f5, .string x.f6, .string x.f7, .slice A x.f8.length c] 115); have z2 := (blk_cell hX4 2).trans rfl; have hM4 := ((hM2.below hB3).below hB4).below (below_alloc (Below.refl _ w4) (.cells #[.int .i64 x.f0, .int .i64 x.f1, .int .i64 x.f2, .int .i64 x.f3, .int .i64 x.f4, .bool x.f5, .string x.f6, .string x.f7, .slice A x.f8.length c] 115))))
            go_roundw
            case rel => exact HREL.out _ hM4 hC4 hb.out _ HN1.out
            case measure =>
              have := hM4.count
              rw [HU.out, List.length_append] at this
              simp only [List.length_singleton] at this
              omega
end Go.Proofs.YtgopddjmmoohdaaGreatDoor
