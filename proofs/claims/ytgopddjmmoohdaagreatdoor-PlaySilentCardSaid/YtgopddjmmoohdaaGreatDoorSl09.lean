/- The texts of this seat, joined: part 9 of 25. -/
import Derived.Test.YtgopddjmmoohdaaGreatDoorSl08
/- valid over forests: document, Check. -/
set_option linter.unusedSimpArgs false
set_option linter.unusedVariables false
namespace Go.Proofs.YtgopddjmmoohdaaGreatDoor
open Go.RowKit Go.Proofs.YtgopddjmmoohdaaGreatDoorW.PrintWords Go.Proofs.YtgopddjmmoohdaaGreatDoorW.PrintLast Go.Proofs.YtgopddjmmoohdaaGreatDoor.PPlaySilent

/-- Would a document have one element at most? -/
def docB (l : List S115) (kind node parent : Int) : Bool :=
  if kind = 2 then ((countF l parent 2 : Int) == 0) else if kind = 4 then (if countF l node 2 = 0 then true else if countF l node 2 = 1 then ((countF l parent 2 : Int) == 0) else false) else true
set_option maxRecDepth 100000 in
set_option maxHeartbeats 1600000 in
theorem document_any (F : Nat) (x : S115) (A : Option Addr) (c : Nat) (node parent : Int) (l : List S115) (w : World) (h : FoR w F l) (hk : kidsOk l) :
    Calls Tryz.prog 116 #[.pointer (some ⟨F, 0, none⟩), .agg #[.int .i64 x.f0, .int .i64 x.f1, .int .i64 x.f2, .int .i64 x.f3, .int .i64 x.f4, .bool x.f5, .string x.f6, .string x.f7, .slice A x.f8.length c], .int .i64 node, .int .i64 parent] w fun e w' => e = .returned (.bool (docB l x.f0 node parent)) ∧ Below w.heap.size w w' := by
  have hbo := fun X => (Below.refl w.heap.size w).alloc (Nat.le_refl _) X
  have hc1 := fun W (hW : Below w.heap.size w W) => count_any F node 2 l W (h.below hW) hk
  have hc2 := fun W (hW : Below w.heap.size w W) => count_any F parent 2 l W (h.below hW) hk
  have hX := blk_new w (.cells #[.int .i64 x.f0, .int .i64 x.f1, .int .i64 x.f2, .int .i64 x.f3, .int .i64 x.f4, .bool x.f5, .string x.f6, .string x.f7, .slice A x.f8.length c] 115)
  have z0 := (blk_cell hX 0).trans rfl
  have HD := hd_ (show docB l x.f0 node parent = if x.f0 = 2 then ((countF l parent 2 : Int) == 0) else if x.f0 = 4 then (if countF l node 2 = 0 then true else if countF l node 2 = 1 then ((countF l parent 2 : Int) == 0) else false) else true from rfl)
  generalize docB l x.f0 node parent = r at *
  generalize countF l node 2 = n1 at *
  generalize countF l parent 2 = n2 at *
  clear h
  by_cases k2 : x.f0 = 2
  · have q2 : (x.f0 == 2) = true := by simp [k2]
    replace HD := hd_ (HD.out.trans (if_pos k2))
    clear k2
    go_enter Tryz.func116, Tryz.ntmps116
    go_wp2_with (go_at_call 154; (with_reducible refine (hc2 _ (hbo _)).mono ?_); rintro e w1 ⟨rfl, hB1⟩)
    go_ret
    exact ⟨by rw [HD.out]; rfl, below_then (hbo _) (hbo _).size hB1⟩
  · have q2 : (x.f0 == 2) = false := by simp [k2]
    replace HD := hd_ (HD.out.trans (if_neg k2))
    by_cases k4 : x.f0 = 4
    · have q4 : (x.f0 == 4) = true := by simp [k4]
      replace HD := hd_ (HD.out.trans (if_pos k4))
      clear k2 k4
      by_cases e0 : n1 = 0
      · subst e0
        replace HD := hd_ (HD.out.trans (if_pos rfl))
        go_enter Tryz.func116, Tryz.ntmps116
        go_wp2_with (go_at_call 154; (with_reducible refine (hc1 _ (hbo _)).mono ?_); rintro e w1 ⟨rfl, hB1⟩; have hC1 := below_then (hbo _) (hbo _).size hB1)
        go_ret
        exact ⟨by rw [HD.out]; rfl, hC1⟩
      · by_cases e1 : n1 = 1
        · subst e1
          replace HD := hd_ (HD.out.trans ((if_neg (by decide)).trans (if_pos rfl)))
          clear e0
          go_enter Tryz.func116, Tryz.ntmps116
          go_wp2_with (first
            | (go_at_call 154; (with_reducible refine (hc1 _ (hbo _)).mono ?_); rintro e w1 ⟨rfl, hB1⟩; have hC1 := below_then (hbo _) (hbo _).size hB1)
            | (go_at_call 154; (with_reducible refine (hc2 _ hC1).mono ?_); rintro e w2 ⟨rfl, hB2⟩; replace hC1 := below_then hC1 hC1.size hB2))
          go_ret
          exact ⟨by rw [HD.out]; rfl, hC1⟩
        · replace HD := hd_ (HD.out.trans ((if_neg e0).trans (if_neg e1)))
          have n0 : ((n1 : Int) == 0) = false := by simp; omega
          have n1' : ((n1 : Int) == 1) = false := by simp; omega
          clear e0 e1
          go_enter Tryz.func116, Tryz.ntmps116
          go_wp2_with (go_at_call 154; (with_reducible refine (hc1 _ (hbo _)).mono ?_); rintro e w1 ⟨rfl, hB1⟩; have hC1 := below_then (hbo _) (hbo _).size hB1)
          go_ret
          exact ⟨by rw [HD.out]; rfl, hC1⟩
    · have q4 : (x.f0 == 4) = false := by simp [k4]
      replace HD := hd_ (HD.out.trans (if_neg k4))
      clear k2 k4
      go_enter Tryz.func116, Tryz.ntmps116
      go_wp2
      go_ret
      exact ⟨by rw [HD.out]; rfl, hbo _⟩
/-- Check's error. -/
def checkE (l : List S115) (node parent child : Int) : Int :=
  if isN l node = false then 1 else if isN l parent = false then 1 else if (!isN l child && child != 0) = true then 1 else if hostB l node (l.length + 1) [] parent = true then 3 else if (isN l child && (nodeD l child).f1 != parent) = true then 4 else if (nodeD l node).f0 = 1 then 3 else if (nodeD l node).f0 = 3 then 3 else if ((nodeD l parent).f0 == 1 && !docB l (nodeD l node).f0 node parent) = true then 3 else 0
/-- What is known when Check says yes. -/
def ChkOk (l : List S115) (node parent child : Int) : Prop := isN l node = true ∧ isN l parent = true ∧ (child = 0 ∨ isN l child = true ∧ (nodeD l child).f1 = parent) ∧ aboveF l node parent = false
theorem checkE_ok {l : List S115} {node parent child : Int} (h : checkE l node parent child = 0) : ChkOk l node parent child := by
  unfold checkE at h
  split at h
  · cases h
  split at h
  · cases h
  split at h
  · cases h
  split at h
  · cases h
  split at h
  · cases h
  rename_i h1 h2 h3 h4 h5
  refine ⟨by simpa using h1, by simpa using h2, ?_, hostB_above (by simpa using h4)⟩
  cases hb : isN l child with
  | false => rw [hb] at h3; exact .inl (by simpa using h3)
  | true => rw [hb] at h5; exact .inr ⟨rfl, by simpa using h5⟩
set_option maxRecDepth 100000 in
set_option maxHeartbeats 6400000 in
theorem vcheck_any (F : Nat) (node parent child : Int) (l : List S115) (w : World) (h : FoR w F l) (hk : kidsOk l) (he : EndsA l) :
    Calls Tryz.prog 66 #[.pointer (some ⟨F, 0, none⟩), .int .i64 node, .int .i64 parent, .int .i64 child] w fun e w' => e = .returned (.int .i64 (checkE l node parent child)) ∧ Below w.heap.size w w' := by
  have hF := fun W (hW : Below w.heap.size w W) => h.below hW
  have h1 := node_call F node l w h hk
  have h2 := fun W (hW : Below w.heap.size w W) => node_call F parent l W (hF W hW) hk
  have h3 := fun W (hW : Below w.heap.size w W) => node_call F child l W (hF W hW) hk
  have hh := fun W (hW : Below w.heap.size w W) => host_any F node parent l W (hF W hW) hk he
  have hd := fun A c W (hW : Below w.heap.size w W) => document_any F (nodeD l node) A c node parent l W (hF W hW) hk
  have HE := hd_ (show checkE l node parent child = if isN l node = false then 1 else if isN l parent = false then 1 else if (!isN l child && child != 0) = true then 1 else if hostB l node (l.length + 1) [] parent = true then 3 else if (isN l child && (nodeD l child).f1 != parent) = true then 4 else if (nodeD l node).f0 = 1 then 3 else if (nodeD l node).f0 = 3 then 3 else if ((nodeD l parent).f0 == 1 && !docB l (nodeD l node).f0 node parent) = true then 3 else 0 from rfl)
  simp only [nodeV] at h1 h2 h3
  generalize checkE l node parent child = r0 at *
  generalize hostB l node (l.length + 1) [] parent = r at *
  generalize docB l (nodeD l node).f0 node parent = r2 at *
  obtain ⟨x, hx⟩ : ∃ x, nodeD l node = x := ⟨_, rfl⟩
  obtain ⟨y, hy⟩ : ∃ y, nodeD l parent = y := ⟨_, rfl⟩
  obtain ⟨z, hz⟩ : ∃ z, nodeD l child = z := ⟨_, rfl⟩
  obtain ⟨b1, e1⟩ : ∃ b, isN l node = b := ⟨_, rfl⟩
  obtain ⟨b2, e2⟩ : ∃ b, isN l parent = b := ⟨_, rfl⟩
  obtain ⟨b3, e3⟩ : ∃ b, isN l child = b := ⟨_, rfl⟩
  rw [hx] at h1 hd
  simp only [hy] at h2
  simp only [hz] at h3
  rw [e1] at h1
  simp only [e2] at h2
  simp only [e3] at h3
  rw [hx, hy, hz, e1, e2, e3] at HE
  clear hx hy hz e1 e2 e3 h hk he hF
  cases b1 with
  | false =>
    have HF : Hd (r0 = 1) := ⟨by rw [HE.out]; simp⟩
    clear HE
    go_enter Tryz.func66, Tryz.ntmps66
    go_wp2_with (first
      | (go_at_call 57; (with_reducible refine h1.mono ?_); rintro e w1 ⟨A, c, rfl, -, -, hB1⟩; have hC1 := below_alloc hB1 (.cells #[.int .i64 x.f0, .int .i64 x.f1, .int .i64 x.f2, .int .i64 x.f3, .int .i64 x.f4, .bool x.f5, .string x.f6, .string x.f7, .slice A x.f8.length c] 115); have hX1 := blk_new w1 (.cells #[.int .i64 x.f0, .int .i64 x.f1, .int .i64 x.f2, .int .i64 x.f3, .int .i64 x.f4, .bool x.f5, .string x.f6, .string x.f7, .slice A x.f8.length c] 115))
      | (go_at_call 57; (with_reducible refine (h2 _ hC1).mono ?_); rintro e w2 ⟨A2, c2, rfl, -, -, hB2⟩; have hC2 := below_alloc (below_then hC1 hC1.size hB2) (.cells #[.int .i64 y.f0, .int .i64 y.f1, .int .i64 y.f2, .int .i64 y.f3, .int .i64 y.f4, .bool y.f5, .string y.f6, .string y.f7, .slice A2 y.f8.length c2] 115); have hX2 := blk_new w2 (.cells #[.int .i64 y.f0, .int .i64 y.f1, .int .i64 y.f2, .int .i64 y.f3, .int .i64 y.f4, .bool y.f5, .string y.f6, .string y.f7, .slice A2 y.f8.length c2] 115); replace hX1 := blk_below hX1 (below_alloc hB2 (.cells #[.int .i64 y.f0, .int .i64 y.f1, .int .i64 y.f2, .int .i64 y.f3, .int .i64 y.f4, .bool y.f5, .string y.f6, .string y.f7, .slice A2 y.f8.length c2] 115)))
      | (go_at_call 57; (with_reducible refine (h3 _ hC2).mono ?_); rintro e w3 ⟨A3, c3, rfl, -, -, hB3⟩; have hC3 := below_alloc (below_then hC2 hC2.size hB3) (.cells #[.int .i64 z.f0, .int .i64 z.f1, .int .i64 z.f2, .int .i64 z.f3, .int .i64 z.f4, .bool z.f5, .string z.f6, .string z.f7, .slice A3 z.f8.length c3] 115); have hX3 := blk_new w3 (.cells #[.int .i64 z.f0, .int .i64 z.f1, .int .i64 z.f2, .int .i64 z.f3, .int .i64 z.f4, .bool z.f5, .string z.f6, .string z.f7, .slice A3 z.f8.length c3] 115); replace hX1 := blk_below hX1 (below_alloc hB3 (.cells #[.int .i64 z.f0, .int .i64 z.f1, .int .i64 z.f2, .int .i64 z.f3, .int .i64 z.f4, .bool z.f5, .string z.f6, .string z.f7, .slice A3 z.f8.length c3] 115)); replace hX2 := blk_below hX2 (below_alloc hB3 (.cells #[.int .i64 z.f0, .int .i64 z.f1, .int .i64 z.f2, .int .i64 z.f3, .int .i64 z.f4, .bool z.f5, .string z.f6, .string z.f7, .slice A3 z.f8.length c3] 115))))
    go_ret
    exact ⟨by rw [HF.out]; rfl, hC3⟩
  | true =>
    cases b2 with
    | false =>
      have HF : Hd (r0 = 1) := ⟨by rw [HE.out]; simp⟩
      clear HE
      go_enter Tryz.func66, Tryz.ntmps66
      go_wp2_with (first
        | (go_at_call 57; (with_reducible refine h1.mono ?_); rintro e w1 ⟨A, c, rfl, -, -, hB1⟩; have hC1 := below_alloc hB1 (.cells #[.int .i64 x.f0, .int .i64 x.f1, .int .i64 x.f2, .int .i64 x.f3, .int .i64 x.f4, .bool x.f5, .string x.f6, .string x.f7, .slice A x.f8.length c] 115); have hX1 := blk_new w1 (.cells #[.int .i64 x.f0, .int .i64 x.f1, .int .i64 x.f2, .int .i64 x.f3, .int .i64 x.f4, .bool x.f5, .string x.f6, .string x.f7, .slice A x.f8.length c] 115))
        | (go_at_call 57; (with_reducible refine (h2 _ hC1).mono ?_); rintro e w2 ⟨A2, c2, rfl, -, -, hB2⟩; have hC2 := below_alloc (below_then hC1 hC1.size hB2) (.cells #[.int .i64 y.f0, .int .i64 y.f1, .int .i64 y.f2, .int .i64 y.f3, .int .i64 y.f4, .bool y.f5, .string y.f6, .string y.f7, .slice A2 y.f8.length c2] 115); have hX2 := blk_new w2 (.cells #[.int .i64 y.f0, .int .i64 y.f1, .int .i64 y.f2, .int .i64 y.f3, .int .i64 y.f4, .bool y.f5, .string y.f6, .string y.f7, .slice A2 y.f8.length c2] 115); replace hX1 := blk_below hX1 (below_alloc hB2 (.cells #[.int .i64 y.f0, .int .i64 y.f1, .int .i64 y.f2, .int .i64 y.f3, .int .i64 y.f4, .bool y.f5, .string y.f6, .string y.f7, .slice A2 y.f8.length c2] 115)))
        | (go_at_call 57; (with_reducible refine (h3 _ hC2).mono ?_); rintro e w3 ⟨A3, c3, rfl, -, -, hB3⟩; have hC3 := below_alloc (below_then hC2 hC2.size hB3) (.cells #[.int .i64 z.f0, .int .i64 z.f1, .int .i64 z.f2, .int .i64 z.f3, .int .i64 z.f4, .bool z.f5, .string z.f6, .string z.f7, .slice A3 z.f8.length c3] 115); have hX3 := blk_new w3 (.cells #[.int .i64 z.f0, .int .i64 z.f1, .int .i64 z.f2, .int .i64 z.f3, .int .i64 z.f4, .bool z.f5, .string z.f6, .string z.f7, .slice A3 z.f8.length c3] 115); replace hX1 := blk_below hX1 (below_alloc hB3 (.cells #[.int .i64 z.f0, .int .i64 z.f1, .int .i64 z.f2, .int .i64 z.f3, .int .i64 z.f4, .bool z.f5, .string z.f6, .string z.f7, .slice A3 z.f8.length c3] 115)); replace hX2 := blk_below hX2 (below_alloc hB3 (.cells #[.int .i64 z.f0, .int .i64 z.f1, .int .i64 z.f2, .int .i64 z.f3, .int .i64 z.f4, .bool z.f5, .string z.f6, .string z.f7, .slice A3 z.f8.length c3] 115))))
      go_ret
      exact ⟨by rw [HF.out]; rfl, hC3⟩
    | true =>
      cases b3 with
      | false =>
        by_cases k0 : child = 0
        · have q0 : (child != 0) = false := by simp [k0]
          cases r with
          | true =>
            have HF : Hd (r0 = 3) := ⟨by rw [HE.out]; simp [k0]⟩
            clear HE k0
            go_enter Tryz.func66, Tryz.ntmps66
            go_wp2_with (first
              | (go_at_call 57; (with_reducible refine h1.mono ?_); rintro e w1 ⟨A, c, rfl, -, -, hB1⟩; have hC1 := below_alloc hB1 (.cells #[.int .i64 x.f0, .int .i64 x.f1, .int .i64 x.f2, .int .i64 x.f3, .int .i64 x.f4, .bool x.f5, .string x.f6, .string x.f7, .slice A x.f8.length c] 115); have hX1 := blk_new w1 (.cells #[.int .i64 x.f0, .int .i64 x.f1, .int .i64 x.f2, .int .i64 x.f3, .int .i64 x.f4, .bool x.f5, .string x.f6, .string x.f7, .slice A x.f8.length c] 115))
              | (go_at_call 57; (with_reducible refine (h2 _ hC1).mono ?_); rintro e w2 ⟨A2, c2, rfl, -, -, hB2⟩; have hC2 := below_alloc (below_then hC1 hC1.size hB2) (.cells #[.int .i64 y.f0, .int .i64 y.f1, .int .i64 y.f2, .int .i64 y.f3, .int .i64 y.f4, .bool y.f5, .string y.f6, .string y.f7, .slice A2 y.f8.length c2] 115); have hX2 := blk_new w2 (.cells #[.int .i64 y.f0, .int .i64 y.f1, .int .i64 y.f2, .int .i64 y.f3, .int .i64 y.f4, .bool y.f5, .string y.f6, .string y.f7, .slice A2 y.f8.length c2] 115); replace hX1 := blk_below hX1 (below_alloc hB2 (.cells #[.int .i64 y.f0, .int .i64 y.f1, .int .i64 y.f2, .int .i64 y.f3, .int .i64 y.f4, .bool y.f5, .string y.f6, .string y.f7, .slice A2 y.f8.length c2] 115)))
              | (go_at_call 57; (with_reducible refine (h3 _ hC2).mono ?_); rintro e w3 ⟨A3, c3, rfl, -, -, hB3⟩; have hC3 := below_alloc (below_then hC2 hC2.size hB3) (.cells #[.int .i64 z.f0, .int .i64 z.f1, .int .i64 z.f2, .int .i64 z.f3, .int .i64 z.f4, .bool z.f5, .string z.f6, .string z.f7, .slice A3 z.f8.length c3] 115); have hX3 := blk_new w3 (.cells #[.int .i64 z.f0, .int .i64 z.f1, .int .i64 z.f2, .int .i64 z.f3, .int .i64 z.f4, .bool z.f5, .string z.f6, .string z.f7, .slice A3 z.f8.length c3] 115); replace hX1 := blk_below hX1 (below_alloc hB3 (.cells #[.int .i64 z.f0, .int .i64 z.f1, .int .i64 z.f2, .int .i64 z.f3, .int .i64 z.f4, .bool z.f5, .string z.f6, .string z.f7, .slice A3 z.f8.length c3] 115)); replace hX2 := blk_below hX2 (below_alloc hB3 (.cells #[.int .i64 z.f0, .int .i64 z.f1, .int .i64 z.f2, .int .i64 z.f3, .int .i64 z.f4, .bool z.f5, .string z.f6, .string z.f7, .slice A3 z.f8.length c3] 115)))
              | (go_at_call 115; (with_reducible refine (hh _ hC3).mono ?_); rintro e w4 ⟨rfl, hB4⟩; have hC4 := below_then hC3 hC3.size hB4; replace hX1 := blk_below hX1 hB4; replace hX2 := blk_below hX2 hB4; replace hX3 := blk_below hX3 hB4; have x0 := (blk_cell hX1 0).trans rfl; have x1 := (blk_cell hX1 1).trans rfl; have x2 := (blk_cell hX1 2).trans rfl; have x3 := (blk_cell hX1 3).trans rfl; have x4 := (blk_cell hX1 4).trans rfl; have x5 := (blk_cell hX1 5).trans rfl; have x6 := (blk_cell hX1 6).trans rfl; have x7 := (blk_cell hX1 7).trans rfl; have x8 := (blk_cell hX1 8).trans rfl; have y0 := (blk_cell hX2 0).trans rfl; have z1 := (blk_cell hX3 1).trans rfl; clear hX1 hX2 hX3))
            go_ret
            exact ⟨by rw [HF.out]; rfl, hC4⟩
          | false =>
            by_cases q1 : x.f0 = 1
            · have p1 : (x.f0 == 1) = true := by simp [q1]
              have HF : Hd (r0 = 3) := ⟨by rw [HE.out]; simp [k0, q1]⟩
              clear HE k0 q1
              go_enter Tryz.func66, Tryz.ntmps66
              go_wp2_with (first
                | (go_at_call 57; (with_reducible refine h1.mono ?_); rintro e w1 ⟨A, c, rfl, -, -, hB1⟩; have hC1 := below_alloc hB1 (.cells #[.int .i64 x.f0, .int .i64 x.f1, .int .i64 x.f2, .int .i64 x.f3, .int .i64 x.f4, .bool x.f5, .string x.f6, .string x.f7, .slice A x.f8.length c] 115); have hX1 := blk_new w1 (.cells #[.int .i64 x.f0, .int .i64 x.f1, .int .i64 x.f2, .int .i64 x.f3, .int .i64 x.f4, .bool x.f5, .string x.f6, .string x.f7, .slice A x.f8.length c] 115))
                | (go_at_call 57; (with_reducible refine (h2 _ hC1).mono ?_); rintro e w2 ⟨A2, c2, rfl, -, -, hB2⟩; have hC2 := below_alloc (below_then hC1 hC1.size hB2) (.cells #[.int .i64 y.f0, .int .i64 y.f1, .int .i64 y.f2, .int .i64 y.f3, .int .i64 y.f4, .bool y.f5, .string y.f6, .string y.f7, .slice A2 y.f8.length c2] 115); have hX2 := blk_new w2 (.cells #[.int .i64 y.f0, .int .i64 y.f1, .int .i64 y.f2, .int .i64 y.f3, .int .i64 y.f4, .bool y.f5, .string y.f6, .string y.f7, .slice A2 y.f8.length c2] 115); replace hX1 := blk_below hX1 (below_alloc hB2 (.cells #[.int .i64 y.f0, .int .i64 y.f1, .int .i64 y.f2, .int .i64 y.f3, .int .i64 y.f4, .bool y.f5, .string y.f6, .string y.f7, .slice A2 y.f8.length c2] 115)))
                | (go_at_call 57; (with_reducible refine (h3 _ hC2).mono ?_); rintro e w3 ⟨A3, c3, rfl, -, -, hB3⟩; have hC3 := below_alloc (below_then hC2 hC2.size hB3) (.cells #[.int .i64 z.f0, .int .i64 z.f1, .int .i64 z.f2, .int .i64 z.f3, .int .i64 z.f4, .bool z.f5, .string z.f6, .string z.f7, .slice A3 z.f8.length c3] 115); have hX3 := blk_new w3 (.cells #[.int .i64 z.f0, .int .i64 z.f1, .int .i64 z.f2, .int .i64 z.f3, .int .i64 z.f4, .bool z.f5, .string z.f6, .string z.f7, .slice A3 z.f8.length c3] 115); replace hX1 := blk_below hX1 (below_alloc hB3 (.cells #[.int .i64 z.f0, .int .i64 z.f1, .int .i64 z.f2, .int .i64 z.f3, .int .i64 z.f4, .bool z.f5, .string z.f6, .string z.f7, .slice A3 z.f8.length c3] 115)); replace hX2 := blk_below hX2 (below_alloc hB3 (.cells #[.int .i64 z.f0, .int .i64 z.f1, .int .i64 z.f2, .int .i64 z.f3, .int .i64 z.f4, .bool z.f5, .string z.f6, .string z.f7, .slice A3 z.f8.length c3] 115)))
                | (go_at_call 115; (with_reducible refine (hh _ hC3).mono ?_); rintro e w4 ⟨rfl, hB4⟩; have hC4 := below_then hC3 hC3.size hB4; replace hX1 := blk_below hX1 hB4; replace hX2 := blk_below hX2 hB4; replace hX3 := blk_below hX3 hB4; have x0 := (blk_cell hX1 0).trans rfl; have x1 := (blk_cell hX1 1).trans rfl; have x2 := (blk_cell hX1 2).trans rfl; have x3 := (blk_cell hX1 3).trans rfl; have x4 := (blk_cell hX1 4).trans rfl; have x5 := (blk_cell hX1 5).trans rfl; have x6 := (blk_cell hX1 6).trans rfl; have x7 := (blk_cell hX1 7).trans rfl; have x8 := (blk_cell hX1 8).trans rfl; have y0 := (blk_cell hX2 0).trans rfl; have z1 := (blk_cell hX3 1).trans rfl; clear hX1 hX2 hX3))
              go_ret
              exact ⟨by rw [HF.out]; rfl, hC4⟩
            · have p1 : (x.f0 == 1) = false := by simp [q1]
              by_cases q3 : x.f0 = 3
              · have p3 : (x.f0 == 3) = true := by simp [q3]
                have HF : Hd (r0 = 3) := ⟨by rw [HE.out]; simp [k0, q1, q3]⟩
                clear HE k0 q1 q3
                go_enter Tryz.func66, Tryz.ntmps66
                go_wp2_with (first
                  | (go_at_call 57; (with_reducible refine h1.mono ?_); rintro e w1 ⟨A, c, rfl, -, -, hB1⟩; have hC1 := below_alloc hB1 (.cells #[.int .i64 x.f0, .int .i64 x.f1, .int .i64 x.f2, .int .i64 x.f3, .int .i64 x.f4, .bool x.f5, .string x.f6, .string x.f7, .slice A x.f8.length c] 115); have hX1 := blk_new w1 (.cells #[.int .i64 x.f0, .int .i64 x.f1, .int .i64 x.f2, .int .i64 x.f3, .int .i64 x.f4, .bool x.f5, .string x.f6, .string x.f7, .slice A x.f8.length c] 115))
                  | (go_at_call 57; (with_reducible refine (h2 _ hC1).mono ?_); rintro e w2 ⟨A2, c2, rfl, -, -, hB2⟩; have hC2 := below_alloc (below_then hC1 hC1.size hB2) (.cells #[.int .i64 y.f0, .int .i64 y.f1, .int .i64 y.f2, .int .i64 y.f3, .int .i64 y.f4, .bool y.f5, .string y.f6, .string y.f7, .slice A2 y.f8.length c2] 115); have hX2 := blk_new w2 (.cells #[.int .i64 y.f0, .int .i64 y.f1, .int .i64 y.f2, .int .i64 y.f3, .int .i64 y.f4, .bool y.f5, .string y.f6, .string y.f7, .slice A2 y.f8.length c2] 115); replace hX1 := blk_below hX1 (below_alloc hB2 (.cells #[.int .i64 y.f0, .int .i64 y.f1, .int .i64 y.f2, .int .i64 y.f3, .int .i64 y.f4, .bool y.f5, .string y.f6, .string y.f7, .slice A2 y.f8.length c2] 115)))
                  | (go_at_call 57; (with_reducible refine (h3 _ hC2).mono ?_); rintro e w3 ⟨A3, c3, rfl, -, -, hB3⟩; have hC3 := below_alloc (below_then hC2 hC2.size hB3) (.cells #[.int .i64 z.f0, .int .i64 z.f1, .int .i64 z.f2, .int .i64 z.f3, .int .i64 z.f4, .bool z.f5, .string z.f6, .string z.f7, .slice A3 z.f8.length c3] 115); have hX3 := blk_new w3 (.cells #[.int .i64 z.f0, .int .i64 z.f1, .int .i64 z.f2, .int .i64 z.f3, .int .i64 z.f4, .bool z.f5, .string z.f6, .string z.f7, .slice A3 z.f8.length c3] 115); replace hX1 := blk_below hX1 (below_alloc hB3 (.cells #[.int .i64 z.f0, .int .i64 z.f1, .int .i64 z.f2, .int .i64 z.f3, .int .i64 z.f4, .bool z.f5, .string z.f6, .string z.f7, .slice A3 z.f8.length c3] 115)); replace hX2 := blk_below hX2 (below_alloc hB3 (.cells #[.int .i64 z.f0, .int .i64 z.f1, .int .i64 z.f2, .int .i64 z.f3, .int .i64 z.f4, .bool z.f5, .string z.f6, .string z.f7, .slice A3 z.f8.length c3] 115)))
                  | (go_at_call 115; (with_reducible refine (hh _ hC3).mono ?_); rintro e w4 ⟨rfl, hB4⟩; have hC4 := below_then hC3 hC3.size hB4; replace hX1 := blk_below hX1 hB4; replace hX2 := blk_below hX2 hB4; replace hX3 := blk_below hX3 hB4; have x0 := (blk_cell hX1 0).trans rfl; have x1 := (blk_cell hX1 1).trans rfl; have x2 := (blk_cell hX1 2).trans rfl; have x3 := (blk_cell hX1 3).trans rfl; have x4 := (blk_cell hX1 4).trans rfl; have x5 := (blk_cell hX1 5).trans rfl; have x6 := (blk_cell hX1 6).trans rfl; have x7 := (blk_cell hX1 7).trans rfl; have x8 := (blk_cell hX1 8).trans rfl; have y0 := (blk_cell hX2 0).trans rfl; have z1 := (blk_cell hX3 1).trans rfl; clear hX1 hX2 hX3))
                go_ret
                exact ⟨by rw [HF.out]; rfl, hC4⟩
              · have p3 : (x.f0 == 3) = false := by simp [q3]
                by_cases q4 : y.f0 = 1
                · have p4 : (y.f0 == 1) = true := by simp [q4]
                  cases r2 with
                  | true =>
                    have HF : Hd (r0 = 0) := ⟨by rw [HE.out]; simp [k0, q1, q3, q4]⟩
                    clear HE k0 q1 q3 q4
                    go_enter Tryz.func66, Tryz.ntmps66
                    go_wp2_with (first
                      | (go_at_call 57; (with_reducible refine h1.mono ?_); rintro e w1 ⟨A, c, rfl, -, -, hB1⟩; have hC1 := below_alloc hB1 (.cells #[.int .i64 x.f0, .int .i64 x.f1, .int .i64 x.f2, .int .i64 x.f3, .int .i64 x.f4, .bool x.f5, .string x.f6, .string x.f7, .slice A x.f8.length c] 115); have hX1 := blk_new w1 (.cells #[.int .i64 x.f0, .int .i64 x.f1, .int .i64 x.f2, .int .i64 x.f3, .int .i64 x.f4, .bool x.f5, .string x.f6, .string x.f7, .slice A x.f8.length c] 115))
                      | (go_at_call 57; (with_reducible refine (h2 _ hC1).mono ?_); rintro e w2 ⟨A2, c2, rfl, -, -, hB2⟩; have hC2 := below_alloc (below_then hC1 hC1.size hB2) (.cells #[.int .i64 y.f0, .int .i64 y.f1, .int .i64 y.f2, .int .i64 y.f3, .int .i64 y.f4, .bool y.f5, .string y.f6, .string y.f7, .slice A2 y.f8.length c2] 115); have hX2 := blk_new w2 (.cells #[.int .i64 y.f0, .int .i64 y.f1, .int .i64 y.f2, .int .i64 y.f3, .int .i64 y.f4, .bool y.f5, .string y.f6, .string y.f7, .slice A2 y.f8.length c2] 115); replace hX1 := blk_below hX1 (below_alloc hB2 (.cells #[.int .i64 y.f0, .int .i64 y.f1, .int .i64 y.f2, .int .i64 y.f3, .int .i64 y.f4, .bool y.f5, .string y.f6, .string y.f7, .slice A2 y.f8.length c2] 115)))
                      | (go_at_call 57; (with_reducible refine (h3 _ hC2).mono ?_); rintro e w3 ⟨A3, c3, rfl, -, -, hB3⟩; have hC3 := below_alloc (below_then hC2 hC2.size hB3) (.cells #[.int .i64 z.f0, .int .i64 z.f1, .int .i64 z.f2, .int .i64 z.f3, .int .i64 z.f4, .bool z.f5, .string z.f6, .string z.f7, .slice A3 z.f8.length c3] 115); have hX3 := blk_new w3 (.cells #[.int .i64 z.f0, .int .i64 z.f1, .int .i64 z.f2, .int .i64 z.f3, .int .i64 z.f4, .bool z.f5, .string z.f6, .string z.f7, .slice A3 z.f8.length c3] 115); replace hX1 := blk_below hX1 (below_alloc hB3 (.cells #[.int .i64 z.f0, .int .i64 z.f1, .int .i64 z.f2, .int .i64 z.f3, .int .i64 z.f4, .bool z.f5, .string z.f6, .string z.f7, .slice A3 z.f8.length c3] 115)); replace hX2 := blk_below hX2 (below_alloc hB3 (.cells #[.int .i64 z.f0, .int .i64 z.f1, .int .i64 z.f2, .int .i64 z.f3, .int .i64 z.f4, .bool z.f5, .string z.f6, .string z.f7, .slice A3 z.f8.length c3] 115)))
                      | (go_at_call 115; (with_reducible refine (hh _ hC3).mono ?_); rintro e w4 ⟨rfl, hB4⟩; have hC4 := below_then hC3 hC3.size hB4; replace hX1 := blk_below hX1 hB4; replace hX2 := blk_below hX2 hB4; replace hX3 := blk_below hX3 hB4; have x0 := (blk_cell hX1 0).trans rfl; have x1 := (blk_cell hX1 1).trans rfl; have x2 := (blk_cell hX1 2).trans rfl; have x3 := (blk_cell hX1 3).trans rfl; have x4 := (blk_cell hX1 4).trans rfl; have x5 := (blk_cell hX1 5).trans rfl; have x6 := (blk_cell hX1 6).trans rfl; have x7 := (blk_cell hX1 7).trans rfl; have x8 := (blk_cell hX1 8).trans rfl; have y0 := (blk_cell hX2 0).trans rfl; have z1 := (blk_cell hX3 1).trans rfl; clear hX1 hX2 hX3)
                      | (go_at_call 116; (with_reducible refine (hd _ _ _ hC4).mono ?_); rintro e w5 ⟨rfl, hB5⟩; replace hC4 := below_then hC4 hC4.size hB5))
                    go_ret
                    exact ⟨by rw [HF.out]; rfl, hC4⟩
                  | false =>
                    have HF : Hd (r0 = 3) := ⟨by rw [HE.out]; simp [k0, q1, q3, q4]⟩
                    clear HE k0 q1 q3 q4
                    go_enter Tryz.func66, Tryz.ntmps66
                    go_wp2_with (first
                      | (go_at_call 57; (with_reducible refine h1.mono ?_); rintro e w1 ⟨A, c, rfl, -, -, hB1⟩; have hC1 := below_alloc hB1 (.cells #[.int .i64 x.f0, .int .i64 x.f1, .int .i64 x.f2, .int .i64 x.f3, .int .i64 x.f4, .bool x.f5, .string x.f6, .string x.f7, .slice A x.f8.length c] 115); have hX1 := blk_new w1 (.cells #[.int .i64 x.f0, .int .i64 x.f1, .int .i64 x.f2, .int .i64 x.f3, .int .i64 x.f4, .bool x.f5, .string x.f6, .string x.f7, .slice A x.f8.length c] 115))
                      | (go_at_call 57; (with_reducible refine (h2 _ hC1).mono ?_); rintro e w2 ⟨A2, c2, rfl, -, -, hB2⟩; have hC2 := below_alloc (below_then hC1 hC1.size hB2) (.cells #[.int .i64 y.f0, .int .i64 y.f1, .int .i64 y.f2, .int .i64 y.f3, .int .i64 y.f4, .bool y.f5, .string y.f6, .string y.f7, .slice A2 y.f8.length c2] 115); have hX2 := blk_new w2 (.cells #[.int .i64 y.f0, .int .i64 y.f1, .int .i64 y.f2, .int .i64 y.f3, .int .i64 y.f4, .bool y.f5, .string y.f6, .string y.f7, .slice A2 y.f8.length c2] 115); replace hX1 := blk_below hX1 (below_alloc hB2 (.cells #[.int .i64 y.f0, .int .i64 y.f1, .int .i64 y.f2, .int .i64 y.f3, .int .i64 y.f4, .bool y.f5, .string y.f6, .string y.f7, .slice A2 y.f8.length c2] 115)))
                      | (go_at_call 57; (with_reducible refine (h3 _ hC2).mono ?_); rintro e w3 ⟨A3, c3, rfl, -, -, hB3⟩; have hC3 := below_alloc (below_then hC2 hC2.size hB3) (.cells #[.int .i64 z.f0, .int .i64 z.f1, .int .i64 z.f2, .int .i64 z.f3, .int .i64 z.f4, .bool z.f5, .string z.f6, .string z.f7, .slice A3 z.f8.length c3] 115); have hX3 := blk_new w3 (.cells #[.int .i64 z.f0, .int .i64 z.f1, .int .i64 z.f2, .int .i64 z.f3, .int .i64 z.f4, .bool z.f5, .string z.f6, .string z.f7, .slice A3 z.f8.length c3] 115); replace hX1 := blk_below hX1 (below_alloc hB3 (.cells #[.int .i64 z.f0, .int .i64 z.f1, .int .i64 z.f2, .int .i64 z.f3, .int .i64 z.f4, .bool z.f5, .string z.f6, .string z.f7, .slice A3 z.f8.length c3] 115)); replace hX2 := blk_below hX2 (below_alloc hB3 (.cells #[.int .i64 z.f0, .int .i64 z.f1, .int .i64 z.f2, .int .i64 z.f3, .int .i64 z.f4, .bool z.f5, .string z.f6, .string z.f7, .slice A3 z.f8.length c3] 115)))
                      | (go_at_call 115; (with_reducible refine (hh _ hC3).mono ?_); rintro e w4 ⟨rfl, hB4⟩; have hC4 := below_then hC3 hC3.size hB4; replace hX1 := blk_below hX1 hB4; replace hX2 := blk_below hX2 hB4; replace hX3 := blk_below hX3 hB4; have x0 := (blk_cell hX1 0).trans rfl; have x1 := (blk_cell hX1 1).trans rfl; have x2 := (blk_cell hX1 2).trans rfl; have x3 := (blk_cell hX1 3).trans rfl; have x4 := (blk_cell hX1 4).trans rfl; have x5 := (blk_cell hX1 5).trans rfl; have x6 := (blk_cell hX1 6).trans rfl; have x7 := (blk_cell hX1 7).trans rfl; have x8 := (blk_cell hX1 8).trans rfl; have y0 := (blk_cell hX2 0).trans rfl; have z1 := (blk_cell hX3 1).trans rfl; clear hX1 hX2 hX3)
                      | (go_at_call 116; (with_reducible refine (hd _ _ _ hC4).mono ?_); rintro e w5 ⟨rfl, hB5⟩; replace hC4 := below_then hC4 hC4.size hB5))
                    go_ret
                    exact ⟨by rw [HF.out]; rfl, hC4⟩
                · have p4 : (y.f0 == 1) = false := by simp [q4]
                  have HF : Hd (r0 = 0) := ⟨by rw [HE.out]; simp [k0, q1, q3, q4]⟩
                  clear HE k0 q1 q3 q4
                  go_enter Tryz.func66, Tryz.ntmps66
                  go_wp2_with (first
                    | (go_at_call 57; (with_reducible refine h1.mono ?_); rintro e w1 ⟨A, c, rfl, -, -, hB1⟩; have hC1 := below_alloc hB1 (.cells #[.int .i64 x.f0, .int .i64 x.f1, .int .i64 x.f2, .int .i64 x.f3, .int .i64 x.f4, .bool x.f5, .string x.f6, .string x.f7, .slice A x.f8.length c] 115); have hX1 := blk_new w1 (.cells #[.int .i64 x.f0, .int .i64 x.f1, .int .i64 x.f2, .int .i64 x.f3, .int .i64 x.f4, .bool x.f5, .string x.f6, .string x.f7, .slice A x.f8.length c] 115))
                    | (go_at_call 57; (with_reducible refine (h2 _ hC1).mono ?_); rintro e w2 ⟨A2, c2, rfl, -, -, hB2⟩; have hC2 := below_alloc (below_then hC1 hC1.size hB2) (.cells #[.int .i64 y.f0, .int .i64 y.f1, .int .i64 y.f2, .int .i64 y.f3, .int .i64 y.f4, .bool y.f5, .string y.f6, .string y.f7, .slice A2 y.f8.length c2] 115); have hX2 := blk_new w2 (.cells #[.int .i64 y.f0, .int .i64 y.f1, .int .i64 y.f2, .int .i64 y.f3, .int .i64 y.f4, .bool y.f5, .string y.f6, .string y.f7, .slice A2 y.f8.length c2] 115); replace hX1 := blk_below hX1 (below_alloc hB2 (.cells #[.int .i64 y.f0, .int .i64 y.f1, .int .i64 y.f2, .int .i64 y.f3, .int .i64 y.f4, .bool y.f5, .string y.f6, .string y.f7, .slice A2 y.f8.length c2] 115)))
                    | (go_at_call 57; (with_reducible refine (h3 _ hC2).mono ?_); rintro e w3 ⟨A3, c3, rfl, -, -, hB3⟩; have hC3 := below_alloc (below_then hC2 hC2.size hB3) (.cells #[.int .i64 z.f0, .int .i64 z.f1, .int .i64 z.f2, .int .i64 z.f3, .int .i64 z.f4, .bool z.f5, .string z.f6, .string z.f7, .slice A3 z.f8.length c3] 115); have hX3 := blk_new w3 (.cells #[.int .i64 z.f0, .int .i64 z.f1, .int .i64 z.f2, .int .i64 z.f3, .int .i64 z.f4, .bool z.f5, .string z.f6, .string z.f7, .slice A3 z.f8.length c3] 115); replace hX1 := blk_below hX1 (below_alloc hB3 (.cells #[.int .i64 z.f0, .int .i64 z.f1, .int .i64 z.f2, .int .i64 z.f3, .int .i64 z.f4, .bool z.f5, .string z.f6, .string z.f7, .slice A3 z.f8.length c3] 115)); replace hX2 := blk_below hX2 (below_alloc hB3 (.cells #[.int .i64 z.f0, .int .i64 z.f1, .int .i64 z.f2, .int .i64 z.f3, .int .i64 z.f4, .bool z.f5, .string z.f6, .string z.f7, .slice A3 z.f8.length c3] 115)))
                    | (go_at_call 115; (with_reducible refine (hh _ hC3).mono ?_); rintro e w4 ⟨rfl, hB4⟩; have hC4 := below_then hC3 hC3.size hB4; replace hX1 := blk_below hX1 hB4; replace hX2 := blk_below hX2 hB4; replace hX3 := blk_below hX3 hB4; have x0 := (blk_cell hX1 0).trans rfl; have x1 := (blk_cell hX1 1).trans rfl; have x2 := (blk_cell hX1 2).trans rfl; have x3 := (blk_cell hX1 3).trans rfl; have x4 := (blk_cell hX1 4).trans rfl; have x5 := (blk_cell hX1 5).trans rfl; have x6 := (blk_cell hX1 6).trans rfl; have x7 := (blk_cell hX1 7).trans rfl; have x8 := (blk_cell hX1 8).trans rfl; have y0 := (blk_cell hX2 0).trans rfl; have z1 := (blk_cell hX3 1).trans rfl; clear hX1 hX2 hX3))
                  go_ret
                  exact ⟨by rw [HF.out]; rfl, hC4⟩
        · have q0 : (child != 0) = true := by simp [k0]
          have HF : Hd (r0 = 1) := ⟨by rw [HE.out]; simp [k0]⟩
          clear HE k0
          go_enter Tryz.func66, Tryz.ntmps66
          go_wp2_with (first
            | (go_at_call 57; (with_reducible refine h1.mono ?_); rintro e w1 ⟨A, c, rfl, -, -, hB1⟩; have hC1 := below_alloc hB1 (.cells #[.int .i64 x.f0, .int .i64 x.f1, .int .i64 x.f2, .int .i64 x.f3, .int .i64 x.f4, .bool x.f5, .string x.f6, .string x.f7, .slice A x.f8.length c] 115); have hX1 := blk_new w1 (.cells #[.int .i64 x.f0, .int .i64 x.f1, .int .i64 x.f2, .int .i64 x.f3, .int .i64 x.f4, .bool x.f5, .string x.f6, .string x.f7, .slice A x.f8.length c] 115))
            | (go_at_call 57; (with_reducible refine (h2 _ hC1).mono ?_); rintro e w2 ⟨A2, c2, rfl, -, -, hB2⟩; have hC2 := below_alloc (below_then hC1 hC1.size hB2) (.cells #[.int .i64 y.f0, .int .i64 y.f1, .int .i64 y.f2, .int .i64 y.f3, .int .i64 y.f4, .bool y.f5, .string y.f6, .string y.f7, .slice A2 y.f8.length c2] 115); have hX2 := blk_new w2 (.cells #[.int .i64 y.f0, .int .i64 y.f1, .int .i64 y.f2, .int .i64 y.f3, .int .i64 y.f4, .bool y.f5, .string y.f6, .string y.f7, .slice A2 y.f8.length c2] 115); replace hX1 := blk_below hX1 (below_alloc hB2 (.cells #[.int .i64 y.f0, .int .i64 y.f1, .int .i64 y.f2, .int .i64 y.f3, .int .i64 y.f4, .bool y.f5, .string y.f6, .string y.f7, .slice A2 y.f8.length c2] 115)))
            | (go_at_call 57; (with_reducible refine (h3 _ hC2).mono ?_); rintro e w3 ⟨A3, c3, rfl, -, -, hB3⟩; have hC3 := below_alloc (below_then hC2 hC2.size hB3) (.cells #[.int .i64 z.f0, .int .i64 z.f1, .int .i64 z.f2, .int .i64 z.f3, .int .i64 z.f4, .bool z.f5, .string z.f6, .string z.f7, .slice A3 z.f8.length c3] 115); have hX3 := blk_new w3 (.cells #[.int .i64 z.f0, .int .i64 z.f1, .int .i64 z.f2, .int .i64 z.f3, .int .i64 z.f4, .bool z.f5, .string z.f6, .string z.f7, .slice A3 z.f8.length c3] 115); replace hX1 := blk_below hX1 (below_alloc hB3 (.cells #[.int .i64 z.f0, .int .i64 z.f1, .int .i64 z.f2, .int .i64 z.f3, .int .i64 z.f4, .bool z.f5, .string z.f6, .string z.f7, .slice A3 z.f8.length c3] 115)); replace hX2 := blk_below hX2 (below_alloc hB3 (.cells #[.int .i64 z.f0, .int .i64 z.f1, .int .i64 z.f2, .int .i64 z.f3, .int .i64 z.f4, .bool z.f5, .string z.f6, .string z.f7, .slice A3 z.f8.length c3] 115))))
          go_ret
          exact ⟨by rw [HF.out]; rfl, hC3⟩
      | true =>
        cases r with
        | true =>
          have HF : Hd (r0 = 3) := ⟨by rw [HE.out]; simp⟩
          clear HE
          go_enter Tryz.func66, Tryz.ntmps66
          go_wp2_with (first
            | (go_at_call 57; (with_reducible refine h1.mono ?_); rintro e w1 ⟨A, c, rfl, -, -, hB1⟩; have hC1 := below_alloc hB1 (.cells #[.int .i64 x.f0, .int .i64 x.f1, .int .i64 x.f2, .int .i64 x.f3, .int .i64 x.f4, .bool x.f5, .string x.f6, .string x.f7, .slice A x.f8.length c] 115); have hX1 := blk_new w1 (.cells #[.int .i64 x.f0, .int .i64 x.f1, .int .i64 x.f2, .int .i64 x.f3, .int .i64 x.f4, .bool x.f5, .string x.f6, .string x.f7, .slice A x.f8.length c] 115))
            | (go_at_call 57; (with_reducible refine (h2 _ hC1).mono ?_); rintro e w2 ⟨A2, c2, rfl, -, -, hB2⟩; have hC2 := below_alloc (below_then hC1 hC1.size hB2) (.cells #[.int .i64 y.f0, .int .i64 y.f1, .int .i64 y.f2, .int .i64 y.f3, .int .i64 y.f4, .bool y.f5, .string y.f6, .string y.f7, .slice A2 y.f8.length c2] 115); have hX2 := blk_new w2 (.cells #[.int .i64 y.f0, .int .i64 y.f1, .int .i64 y.f2, .int .i64 y.f3, .int .i64 y.f4, .bool y.f5, .string y.f6, .string y.f7, .slice A2 y.f8.length c2] 115); replace hX1 := blk_below hX1 (below_alloc hB2 (.cells #[.int .i64 y.f0, .int .i64 y.f1, .int .i64 y.f2, .int .i64 y.f3, .int .i64 y.f4, .bool y.f5, .string y.f6, .string y.f7, .slice A2 y.f8.length c2] 115)))
            | (go_at_call 57; (with_reducible refine (h3 _ hC2).mono ?_); rintro e w3 ⟨A3, c3, rfl, -, -, hB3⟩; have hC3 := below_alloc (below_then hC2 hC2.size hB3) (.cells #[.int .i64 z.f0, .int .i64 z.f1, .int .i64 z.f2, .int .i64 z.f3, .int .i64 z.f4, .bool z.f5, .string z.f6, .string z.f7, .slice A3 z.f8.length c3] 115); have hX3 := blk_new w3 (.cells #[.int .i64 z.f0, .int .i64 z.f1, .int .i64 z.f2, .int .i64 z.f3, .int .i64 z.f4, .bool z.f5, .string z.f6, .string z.f7, .slice A3 z.f8.length c3] 115); replace hX1 := blk_below hX1 (below_alloc hB3 (.cells #[.int .i64 z.f0, .int .i64 z.f1, .int .i64 z.f2, .int .i64 z.f3, .int .i64 z.f4, .bool z.f5, .string z.f6, .string z.f7, .slice A3 z.f8.length c3] 115)); replace hX2 := blk_below hX2 (below_alloc hB3 (.cells #[.int .i64 z.f0, .int .i64 z.f1, .int .i64 z.f2, .int .i64 z.f3, .int .i64 z.f4, .bool z.f5, .string z.f6, .string z.f7, .slice A3 z.f8.length c3] 115)))
            | (go_at_call 115; (with_reducible refine (hh _ hC3).mono ?_); rintro e w4 ⟨rfl, hB4⟩; have hC4 := below_then hC3 hC3.size hB4; replace hX1 := blk_below hX1 hB4; replace hX2 := blk_below hX2 hB4; replace hX3 := blk_below hX3 hB4; have x0 := (blk_cell hX1 0).trans rfl; have x1 := (blk_cell hX1 1).trans rfl; have x2 := (blk_cell hX1 2).trans rfl; have x3 := (blk_cell hX1 3).trans rfl; have x4 := (blk_cell hX1 4).trans rfl; have x5 := (blk_cell hX1 5).trans rfl; have x6 := (blk_cell hX1 6).trans rfl; have x7 := (blk_cell hX1 7).trans rfl; have x8 := (blk_cell hX1 8).trans rfl; have y0 := (blk_cell hX2 0).trans rfl; have z1 := (blk_cell hX3 1).trans rfl; clear hX1 hX2 hX3))
          go_ret
          exact ⟨by rw [HF.out]; rfl, hC4⟩
        | false =>
          by_cases kp : z.f1 = parent
          · have qp : (z.f1 != parent) = false := by simp [kp]
            by_cases q1 : x.f0 = 1
            · have p1 : (x.f0 == 1) = true := by simp [q1]
              have HF : Hd (r0 = 3) := ⟨by rw [HE.out]; simp [kp, q1]⟩
              clear HE kp q1
              go_enter Tryz.func66, Tryz.ntmps66
              go_wp2_with (first
                | (go_at_call 57; (with_reducible refine h1.mono ?_); rintro e w1 ⟨A, c, rfl, -, -, hB1⟩; have hC1 := below_alloc hB1 (.cells #[.int .i64 x.f0, .int .i64 x.f1, .int .i64 x.f2, .int .i64 x.f3, .int .i64 x.f4, .bool x.f5, .string x.f6, .string x.f7, .slice A x.f8.length c] 115); have hX1 := blk_new w1 (.cells #[.int .i64 x.f0, .int .i64 x.f1, .int .i64 x.f2, .int .i64 x.f3, .int .i64 x.f4, .bool x.f5, .string x.f6, .string x.f7, .slice A x.f8.length c] 115))
                | (go_at_call 57; (with_reducible refine (h2 _ hC1).mono ?_); rintro e w2 ⟨A2, c2, rfl, -, -, hB2⟩; have hC2 := below_alloc (below_then hC1 hC1.size hB2) (.cells #[.int .i64 y.f0, .int .i64 y.f1, .int .i64 y.f2, .int .i64 y.f3, .int .i64 y.f4, .bool y.f5, .string y.f6, .string y.f7, .slice A2 y.f8.length c2] 115); have hX2 := blk_new w2 (.cells #[.int .i64 y.f0, .int .i64 y.f1, .int .i64 y.f2, .int .i64 y.f3, .int .i64 y.f4, .bool y.f5, .string y.f6, .string y.f7, .slice A2 y.f8.length c2] 115); replace hX1 := blk_below hX1 (below_alloc hB2 (.cells #[.int .i64 y.f0, .int .i64 y.f1, .int .i64 y.f2, .int .i64 y.f3, .int .i64 y.f4, .bool y.f5, .string y.f6, .string y.f7, .slice A2 y.f8.length c2] 115)))
                | (go_at_call 57; (with_reducible refine (h3 _ hC2).mono ?_); rintro e w3 ⟨A3, c3, rfl, -, -, hB3⟩; have hC3 := below_alloc (below_then hC2 hC2.size hB3) (.cells #[.int .i64 z.f0, .int .i64 z.f1, .int .i64 z.f2, .int .i64 z.f3, .int .i64 z.f4, .bool z.f5, .string z.f6, .string z.f7, .slice A3 z.f8.length c3] 115); have hX3 := blk_new w3 (.cells #[.int .i64 z.f0, .int .i64 z.f1, .int .i64 z.f2, .int .i64 z.f3, .int .i64 z.f4, .bool z.f5, .string z.f6, .string z.f7, .slice A3 z.f8.length c3] 115); replace hX1 := blk_below hX1 (below_alloc hB3 (.cells #[.int .i64 z.f0, .int .i64 z.f1, .int .i64 z.f2, .int .i64 z.f3, .int .i64 z.f4, .bool z.f5, .string z.f6, .string z.f7, .slice A3 z.f8.length c3] 115)); replace hX2 := blk_below hX2 (below_alloc hB3 (.cells #[.int .i64 z.f0, .int .i64 z.f1, .int .i64 z.f2, .int .i64 z.f3, .int .i64 z.f4, .bool z.f5, .string z.f6, .string z.f7, .slice A3 z.f8.length c3] 115)))
                | (go_at_call 115; (with_reducible refine (hh _ hC3).mono ?_); rintro e w4 ⟨rfl, hB4⟩; have hC4 := below_then hC3 hC3.size hB4; replace hX1 := blk_below hX1 hB4; replace hX2 := blk_below hX2 hB4; replace hX3 := blk_below hX3 hB4; have x0 := (blk_cell hX1 0).trans rfl; have x1 := (blk_cell hX1 1).trans rfl; have x2 := (blk_cell hX1 2).trans rfl; have x3 := (blk_cell hX1 3).trans rfl; have x4 := (blk_cell hX1 4).trans rfl; have x5 := (blk_cell hX1 5).trans rfl; have x6 := (blk_cell hX1 6).trans rfl; have x7 := (blk_cell hX1 7).trans rfl; have x8 := (blk_cell hX1 8).trans rfl; have y0 := (blk_cell hX2 0).trans rfl; have z1 := (blk_cell hX3 1).trans rfl; clear hX1 hX2 hX3))
              go_ret
              exact ⟨by rw [HF.out]; rfl, hC4⟩
            · have p1 : (x.f0 == 1) = false := by simp [q1]
              by_cases q3 : x.f0 = 3
              · have p3 : (x.f0 == 3) = true := by simp [q3]
                have HF : Hd (r0 = 3) := ⟨by rw [HE.out]; simp [kp, q1, q3]⟩
                clear HE kp q1 q3
                go_enter Tryz.func66, Tryz.ntmps66
                go_wp2_with (first
                  | (go_at_call 57; (with_reducible refine h1.mono ?_); rintro e w1 ⟨A, c, rfl, -, -, hB1⟩; have hC1 := below_alloc hB1 (.cells #[.int .i64 x.f0, .int .i64 x.f1, .int .i64 x.f2, .int .i64 x.f3, .int .i64 x.f4, .bool x.f5, .string x.f6, .string x.f7, .slice A x.f8.length c] 115); have hX1 := blk_new w1 (.cells #[.int .i64 x.f0, .int .i64 x.f1, .int .i64 x.f2, .int .i64 x.f3, .int .i64 x.f4, .bool x.f5, .string x.f6, .string x.f7, .slice A x.f8.length c] 115))
                  | (go_at_call 57; (with_reducible refine (h2 _ hC1).mono ?_); rintro e w2 ⟨A2, c2, rfl, -, -, hB2⟩; have hC2 := below_alloc (below_then hC1 hC1.size hB2) (.cells #[.int .i64 y.f0, .int .i64 y.f1, .int .i64 y.f2, .int .i64 y.f3, .int .i64 y.f4, .bool y.f5, .string y.f6, .string y.f7, .slice A2 y.f8.length c2] 115); have hX2 := blk_new w2 (.cells #[.int .i64 y.f0, .int .i64 y.f1, .int .i64 y.f2, .int .i64 y.f3, .int .i64 y.f4, .bool y.f5, .string y.f6, .string y.f7, .slice A2 y.f8.length c2] 115); replace hX1 := blk_below hX1 (below_alloc hB2 (.cells #[.int .i64 y.f0, .int .i64 y.f1, .int .i64 y.f2, .int .i64 y.f3, .int .i64 y.f4, .bool y.f5, .string y.f6, .string y.f7, .slice A2 y.f8.length c2] 115)))
                  | (go_at_call 57; (with_reducible refine (h3 _ hC2).mono ?_); rintro e w3 ⟨A3, c3, rfl, -, -, hB3⟩; have hC3 := below_alloc (below_then hC2 hC2.size hB3) (.cells #[.int .i64 z.f0, .int .i64 z.f1, .int .i64 z.f2, .int .i64 z.f3, .int .i64 z.f4, .bool z.f5, .string z.f6, .string z.f7, .slice A3 z.f8.length c3] 115); have hX3 := blk_new w3 (.cells #[.int .i64 z.f0, .int .i64 z.f1, .int .i64 z.f2, .int .i64 z.f3, .int .i64 z.f4, .bool z.f5, .string z.f6, .string z.f7, .slice A3 z.f8.length c3] 115); replace hX1 := blk_below hX1 (below_alloc hB3 (.cells #[.int .i64 z.f0, .int .i64 z.f1, .int .i64 z.f2, .int .i64 z.f3, .int .i64 z.f4, .bool z.f5, .string z.f6, .string z.f7, .slice A3 z.f8.length c3] 115)); replace hX2 := blk_below hX2 (below_alloc hB3 (.cells #[.int .i64 z.f0, .int .i64 z.f1, .int .i64 z.f2, .int .i64 z.f3, .int .i64 z.f4, .bool z.f5, .string z.f6, .string z.f7, .slice A3 z.f8.length c3] 115)))
                  | (go_at_call 115; (with_reducible refine (hh _ hC3).mono ?_); rintro e w4 ⟨rfl, hB4⟩; have hC4 := below_then hC3 hC3.size hB4; replace hX1 := blk_below hX1 hB4; replace hX2 := blk_below hX2 hB4; replace hX3 := blk_below hX3 hB4; have x0 := (blk_cell hX1 0).trans rfl; have x1 := (blk_cell hX1 1).trans rfl; have x2 := (blk_cell hX1 2).trans rfl; have x3 := (blk_cell hX1 3).trans rfl; have x4 := (blk_cell hX1 4).trans rfl; have x5 := (blk_cell hX1 5).trans rfl; have x6 := (blk_cell hX1 6).trans rfl; have x7 := (blk_cell hX1 7).trans rfl; have x8 := (blk_cell hX1 8).trans rfl; have y0 := (blk_cell hX2 0).trans rfl; have z1 := (blk_cell hX3 1).trans rfl; clear hX1 hX2 hX3))
                go_ret
                exact ⟨by rw [HF.out]; rfl, hC4⟩
              · have p3 : (x.f0 == 3) = false := by simp [q3]
                by_cases q4 : y.f0 = 1
                · have p4 : (y.f0 == 1) = true := by simp [q4]
                  cases r2 with
                  | true =>
                    have HF : Hd (r0 = 0) := ⟨by rw [HE.out]; simp [kp, q1, q3, q4]⟩
                    clear HE kp q1 q3 q4
                    go_enter Tryz.func66, Tryz.ntmps66
                    go_wp2_with (first
                      | (go_at_call 57; (with_reducible refine h1.mono ?_); rintro e w1 ⟨A, c, rfl, -, -, hB1⟩; have hC1 := below_alloc hB1 (.cells #[.int .i64 x.f0, .int .i64 x.f1, .int .i64 x.f2, .int .i64 x.f3, .int .i64 x.f4, .bool x.f5, .string x.f6, .string x.f7, .slice A x.f8.length c] 115); have hX1 := blk_new w1 (.cells #[.int .i64 x.f0, .int .i64 x.f1, .int .i64 x.f2, .int .i64 x.f3, .int .i64 x.f4, .bool x.f5, .string x.f6, .string x.f7, .slice A x.f8.length c] 115))
                      | (go_at_call 57; (with_reducible refine (h2 _ hC1).mono ?_); rintro e w2 ⟨A2, c2, rfl, -, -, hB2⟩; have hC2 := below_alloc (below_then hC1 hC1.size hB2) (.cells #[.int .i64 y.f0, .int .i64 y.f1, .int .i64 y.f2, .int .i64 y.f3, .int .i64 y.f4, .bool y.f5, .string y.f6, .string y.f7, .slice A2 y.f8.length c2] 115); have hX2 := blk_new w2 (.cells #[.int .i64 y.f0, .int .i64 y.f1, .int .i64 y.f2, .int .i64 y.f3, .int .i64 y.f4, .bool y.f5, .string y.f6, .string y.f7, .slice A2 y.f8.length c2] 115); replace hX1 := blk_below hX1 (below_alloc hB2 (.cells #[.int .i64 y.f0, .int .i64 y.f1, .int .i64 y.f2, .int .i64 y.f3, .int .i64 y.f4, .bool y.f5, .string y.f6, .string y.f7, .slice A2 y.f8.length c2] 115)))
                      | (go_at_call 57; (with_reducible refine (h3 _ hC2).mono ?_); rintro e w3 ⟨A3, c3, rfl, -, -, hB3⟩; have hC3 := below_alloc (below_then hC2 hC2.size hB3) (.cells #[.int .i64 z.f0, .int .i64 z.f1, .int .i64 z.f2, .int .i64 z.f3, .int .i64 z.f4, .bool z.f5, .string z.f6, .string z.f7, .slice A3 z.f8.length c3] 115); have hX3 := blk_new w3 (.cells #[.int .i64 z.f0, .int .i64 z.f1, .int .i64 z.f2, .int .i64 z.f3, .int .i64 z.f4, .bool z.f5, .string z.f6, .string z.f7, .slice A3 z.f8.length c3] 115); replace hX1 := blk_below hX1 (below_alloc hB3 (.cells #[.int .i64 z.f0, .int .i64 z.f1, .int .i64 z.f2, .int .i64 z.f3, .int .i64 z.f4, .bool z.f5, .string z.f6, .string z.f7, .slice A3 z.f8.length c3] 115)); replace hX2 := blk_below hX2 (below_alloc hB3 (.cells #[.int .i64 z.f0, .int .i64 z.f1, .int .i64 z.f2, .int .i64 z.f3, .int .i64 z.f4, .bool z.f5, .string z.f6, .string z.f7, .slice A3 z.f8.length c3] 115)))
                      | (go_at_call 115; (with_reducible refine (hh _ hC3).mono ?_); rintro e w4 ⟨rfl, hB4⟩; have hC4 := below_then hC3 hC3.size hB4; replace hX1 := blk_below hX1 hB4; replace hX2 := blk_below hX2 hB4; replace hX3 := blk_below hX3 hB4; have x0 := (blk_cell hX1 0).trans rfl; have x1 := (blk_cell hX1 1).trans rfl; have x2 := (blk_cell hX1 2).trans rfl; have x3 := (blk_cell hX1 3).trans rfl; have x4 := (blk_cell hX1 4).trans rfl; have x5 := (blk_cell hX1 5).trans rfl; have x6 := (blk_cell hX1 6).trans rfl; have x7 := (blk_cell hX1 7).trans rfl; have x8 := (blk_cell hX1 8).trans rfl; have y0 := (blk_cell hX2 0).trans rfl; have z1 := (blk_cell hX3 1).trans rfl; clear hX1 hX2 hX3)
                      | (go_at_call 116; (with_reducible refine (hd _ _ _ hC4).mono ?_); rintro e w5 ⟨rfl, hB5⟩; replace hC4 := below_then hC4 hC4.size hB5))
                    go_ret
                    exact ⟨by rw [HF.out]; rfl, hC4⟩
                  | false =>
                    have HF : Hd (r0 = 3) := ⟨by rw [HE.out]; simp [kp, q1, q3, q4]⟩
                    clear HE kp q1 q3 q4
                    go_enter Tryz.func66, Tryz.ntmps66
                    go_wp2_with (first
                      | (go_at_call 57; (with_reducible refine h1.mono ?_); rintro e w1 ⟨A, c, rfl, -, -, hB1⟩; have hC1 := below_alloc hB1 (.cells #[.int .i64 x.f0, .int .i64 x.f1, .int .i64 x.f2, .int .i64 x.f3, .int .i64 x.f4, .bool x.f5, .string x.f6, .string x.f7, .slice A x.f8.length c] 115); have hX1 := blk_new w1 (.cells #[.int .i64 x.f0, .int .i64 x.f1, .int .i64 x.f2, .int .i64 x.f3, .int .i64 x.f4, .bool x.f5, .string x.f6, .string x.f7, .slice A x.f8.length c] 115))
                      | (go_at_call 57; (with_reducible refine (h2 _ hC1).mono ?_); rintro e w2 ⟨A2, c2, rfl, -, -, hB2⟩; have hC2 := below_alloc (below_then hC1 hC1.size hB2) (.cells #[.int .i64 y.f0, .int .i64 y.f1, .int .i64 y.f2, .int .i64 y.f3, .int .i64 y.f4, .bool y.f5, .string y.f6, .string y.f7, .slice A2 y.f8.length c2] 115); have hX2 := blk_new w2 (.cells #[.int .i64 y.f0, .int .i64 y.f1, .int .i64 y.f2, .int .i64 y.f3, .int .i64 y.f4, .bool y.f5, .string y.f6, .string y.f7, .slice A2 y.f8.length c2] 115); replace hX1 := blk_below hX1 (below_alloc hB2 (.cells #[.int .i64 y.f0, .int .i64 y.f1, .int .i64 y.f2, .int .i64 y.f3, .int .i64 y.f4, .bool y.f5, .string y.f6, .string y.f7, .slice A2 y.f8.length c2] 115)))
                      | (go_at_call 57; (with_reducible refine (h3 _ hC2).mono ?_); rintro e w3 ⟨A3, c3, rfl, -, -, hB3⟩; have hC3 := below_alloc (below_then hC2 hC2.size hB3) (.cells #[.int .i64 z.f0, .int .i64 z.f1, .int .i64 z.f2, .int .i64 z.f3, .int .i64 z.f4, .bool z.f5, .string z.f6, .string z.f7, .slice A3 z.f8.length c3] 115); have hX3 := blk_new w3 (.cells #[.int .i64 z.f0, .int .i64 z.f1, .int .i64 z.f2, .int .i64 z.f3, .int .i64 z.f4, .bool z.f5, .string z.f6, .string z.f7, .slice A3 z.f8.length c3] 115); replace hX1 := blk_below hX1 (below_alloc hB3 (.cells #[.int .i64 z.f0, .int .i64 z.f1, .int .i64 z.f2, .int .i64 z.f3, .int .i64 z.f4, .bool z.f5, .string z.f6, .string z.f7, .slice A3 z.f8.length c3] 115)); replace hX2 := blk_below hX2 (below_alloc hB3 (.cells #[.int .i64 z.f0, .int .i64 z.f1, .int .i64 z.f2, .int .i64 z.f3, .int .i64 z.f4, .bool z.f5, .string z.f6, .string z.f7, .slice A3 z.f8.length c3] 115)))
                      | (go_at_call 115; (with_reducible refine (hh _ hC3).mono ?_); rintro e w4 ⟨rfl, hB4⟩; have hC4 := below_then hC3 hC3.size hB4; replace hX1 := blk_below hX1 hB4; replace hX2 := blk_below hX2 hB4; replace hX3 := blk_below hX3 hB4; have x0 := (blk_cell hX1 0).trans rfl; have x1 := (blk_cell hX1 1).trans rfl; have x2 := (blk_cell hX1 2).trans rfl; have x3 := (blk_cell hX1 3).trans rfl; have x4 := (blk_cell hX1 4).trans rfl; have x5 := (blk_cell hX1 5).trans rfl; have x6 := (blk_cell hX1 6).trans rfl; have x7 := (blk_cell hX1 7).trans rfl; have x8 := (blk_cell hX1 8).trans rfl; have y0 := (blk_cell hX2 0).trans rfl; have z1 := (blk_cell hX3 1).trans rfl; clear hX1 hX2 hX3)
                      | (go_at_call 116; (with_reducible refine (hd _ _ _ hC4).mono ?_); rintro e w5 ⟨rfl, hB5⟩; replace hC4 := below_then hC4 hC4.size hB5))
                    go_ret
                    exact ⟨by rw [HF.out]; rfl, hC4⟩
                · have p4 : (y.f0 == 1) = false := by simp [q4]
                  have HF : Hd (r0 = 0) := ⟨by rw [HE.out]; simp [kp, q1, q3, q4]⟩
                  clear HE kp q1 q3 q4
                  go_enter Tryz.func66, Tryz.ntmps66
                  go_wp2_with (first
                    | (go_at_call 57; (with_reducible refine h1.mono ?_); rintro e w1 ⟨A, c, rfl, -, -, hB1⟩; have hC1 := below_alloc hB1 (.cells #[.int .i64 x.f0, .int .i64 x.f1, .int .i64 x.f2, .int .i64 x.f3, .int .i64 x.f4, .bool x.f5, .string x.f6, .string x.f7, .slice A x.f8.length c] 115); have hX1 := blk_new w1 (.cells #[.int .i64 x.f0, .int .i64 x.f1, .int .i64 x.f2, .int .i64 x.f3, .int .i64 x.f4, .bool x.f5, .string x.f6, .string x.f7, .slice A x.f8.length c] 115))
                    | (go_at_call 57; (with_reducible refine (h2 _ hC1).mono ?_); rintro e w2 ⟨A2, c2, rfl, -, -, hB2⟩; have hC2 := below_alloc (below_then hC1 hC1.size hB2) (.cells #[.int .i64 y.f0, .int .i64 y.f1, .int .i64 y.f2, .int .i64 y.f3, .int .i64 y.f4, .bool y.f5, .string y.f6, .string y.f7, .slice A2 y.f8.length c2] 115); have hX2 := blk_new w2 (.cells #[.int .i64 y.f0, .int .i64 y.f1, .int .i64 y.f2, .int .i64 y.f3, .int .i64 y.f4, .bool y.f5, .string y.f6, .string y.f7, .slice A2 y.f8.length c2] 115); replace hX1 := blk_below hX1 (below_alloc hB2 (.cells #[.int .i64 y.f0, .int .i64 y.f1, .int .i64 y.f2, .int .i64 y.f3, .int .i64 y.f4, .bool y.f5, .string y.f6, .string y.f7, .slice A2 y.f8.length c2] 115)))
                    | (go_at_call 57; (with_reducible refine (h3 _ hC2).mono ?_); rintro e w3 ⟨A3, c3, rfl, -, -, hB3⟩; have hC3 := below_alloc (below_then hC2 hC2.size hB3) (.cells #[.int .i64 z.f0, .int .i64 z.f1, .int .i64 z.f2, .int .i64 z.f3, .int .i64 z.f4, .bool z.f5, .string z.f6, .string z.f7, .slice A3 z.f8.length c3] 115); have hX3 := blk_new w3 (.cells #[.int .i64 z.f0, .int .i64 z.f1, .int .i64 z.f2, .int .i64 z.f3, .int .i64 z.f4, .bool z.f5, .string z.f6, .string z.f7, .slice A3 z.f8.length c3] 115); replace hX1 := blk_below hX1 (below_alloc hB3 (.cells #[.int .i64 z.f0, .int .i64 z.f1, .int .i64 z.f2, .int .i64 z.f3, .int .i64 z.f4, .bool z.f5, .string z.f6, .string z.f7, .slice A3 z.f8.length c3] 115)); replace hX2 := blk_below hX2 (below_alloc hB3 (.cells #[.int .i64 z.f0, .int .i64 z.f1, .int .i64 z.f2, .int .i64 z.f3, .int .i64 z.f4, .bool z.f5, .string z.f6, .string z.f7, .slice A3 z.f8.length c3] 115)))
                    | (go_at_call 115; (with_reducible refine (hh _ hC3).mono ?_); rintro e w4 ⟨rfl, hB4⟩; have hC4 := below_then hC3 hC3.size hB4; replace hX1 := blk_below hX1 hB4; replace hX2 := blk_below hX2 hB4; replace hX3 := blk_below hX3 hB4; have x0 := (blk_cell hX1 0).trans rfl; have x1 := (blk_cell hX1 1).trans rfl; have x2 := (blk_cell hX1 2).trans rfl; have x3 := (blk_cell hX1 3).trans rfl; have x4 := (blk_cell hX1 4).trans rfl; have x5 := (blk_cell hX1 5).trans rfl; have x6 := (blk_cell hX1 6).trans rfl; have x7 := (blk_cell hX1 7).trans rfl; have x8 := (blk_cell hX1 8).trans rfl; have y0 := (blk_cell hX2 0).trans rfl; have z1 := (blk_cell hX3 1).trans rfl; clear hX1 hX2 hX3))
                  go_ret
                  exact ⟨by rw [HF.out]; rfl, hC4⟩
          · have qp : (z.f1 != parent) = true := by simp [kp]
            have HF : Hd (r0 = 4) := ⟨by rw [HE.out]; simp [kp]⟩
            clear HE kp
            go_enter Tryz.func66, Tryz.ntmps66
            go_wp2_with (first
              | (go_at_call 57; (with_reducible refine h1.mono ?_); rintro e w1 ⟨A, c, rfl, -, -, hB1⟩; have hC1 := below_alloc hB1 (.cells #[.int .i64 x.f0, .int .i64 x.f1, .int .i64 x.f2, .int .i64 x.f3, .int .i64 x.f4, .bool x.f5, .string x.f6, .string x.f7, .slice A x.f8.length c] 115); have hX1 := blk_new w1 (.cells #[.int .i64 x.f0, .int .i64 x.f1, .int .i64 x.f2, .int .i64 x.f3, .int .i64 x.f4, .bool x.f5, .string x.f6, .string x.f7, .slice A x.f8.length c] 115))
              | (go_at_call 57; (with_reducible refine (h2 _ hC1).mono ?_); rintro e w2 ⟨A2, c2, rfl, -, -, hB2⟩; have hC2 := below_alloc (below_then hC1 hC1.size hB2) (.cells #[.int .i64 y.f0, .int .i64 y.f1, .int .i64 y.f2, .int .i64 y.f3, .int .i64 y.f4, .bool y.f5, .string y.f6, .string y.f7, .slice A2 y.f8.length c2] 115); have hX2 := blk_new w2 (.cells #[.int .i64 y.f0, .int .i64 y.f1, .int .i64 y.f2, .int .i64 y.f3, .int .i64 y.f4, .bool y.f5, .string y.f6, .string y.f7, .slice A2 y.f8.length c2] 115); replace hX1 := blk_below hX1 (below_alloc hB2 (.cells #[.int .i64 y.f0, .int .i64 y.f1, .int .i64 y.f2, .int .i64 y.f3, .int .i64 y.f4, .bool y.f5, .string y.f6, .string y.f7, .slice A2 y.f8.length c2] 115)))
              | (go_at_call 57; (with_reducible refine (h3 _ hC2).mono ?_); rintro e w3 ⟨A3, c3, rfl, -, -, hB3⟩; have hC3 := below_alloc (below_then hC2 hC2.size hB3) (.cells #[.int .i64 z.f0, .int .i64 z.f1, .int .i64 z.f2, .int .i64 z.f3, .int .i64 z.f4, .bool z.f5, .string z.f6, .string z.f7, .slice A3 z.f8.length c3] 115); have hX3 := blk_new w3 (.cells #[.int .i64 z.f0, .int .i64 z.f1, .int .i64 z.f2, .int .i64 z.f3, .int .i64 z.f4, .bool z.f5, .string z.f6, .string z.f7, .slice A3 z.f8.length c3] 115); replace hX1 := blk_below hX1 (below_alloc hB3 (.cells #[.int .i64 z.f0, .int .i64 z.f1, .int .i64 z.f2, .int .i64 z.f3, .int .i64 z.f4, .bool z.f5, .string z.f6, .string z.f7, .slice A3 z.f8.length c3] 115)); replace hX2 := blk_below hX2 (below_alloc hB3 (.cells #[.int .i64 z.f0, .int .i64 z.f1, .int .i64 z.f2, .int .i64 z.f3, .int .i64 z.f4, .bool z.f5, .string z.f6, .string z.f7, .slice A3 z.f8.length c3] 115)))
              | (go_at_call 115; (with_reducible refine (hh _ hC3).mono ?_); rintro e w4 ⟨rfl, hB4⟩; have hC4 := below_then hC3 hC3.size hB4; replace hX1 := blk_below hX1 hB4; replace hX2 := blk_below hX2 hB4; replace hX3 := blk_below hX3 hB4; have x0 := (blk_cell hX1 0).trans rfl; have x1 := (blk_cell hX1 1).trans rfl; have x2 := (blk_cell hX1 2).trans rfl; have x3 := (blk_cell hX1 3).trans rfl; have x4 := (blk_cell hX1 4).trans rfl; have x5 := (blk_cell hX1 5).trans rfl; have x6 := (blk_cell hX1 6).trans rfl; have x7 := (blk_cell hX1 7).trans rfl; have x8 := (blk_cell hX1 8).trans rfl; have y0 := (blk_cell hX2 0).trans rfl; have z1 := (blk_cell hX3 1).trans rfl; clear hX1 hX2 hX3))
            go_ret
            exact ⟨by rw [HF.out]; rfl, hC4⟩
end Go.Proofs.YtgopddjmmoohdaaGreatDoor
