/- The texts of this seat, joined: part 5 of 25. -/
import Derived.Test.YtgopddjmmoohdaaGreatDoorSl04
/- arena.above: a node, its parent or host, and so on. -/
set_option linter.unusedSimpArgs false
namespace Go.Proofs.YtgopddjmmoohdaaGreatDoor
open Go.RowKit Go.Proofs.YtgopddjmmoohdaaGreatDoorW.PrintWords Go.Proofs.YtgopddjmmoohdaaGreatDoorW.PrintLast Go.Proofs.YtgopddjmmoohdaaGreatDoor.PPlaySilent

/-- What is above a node: its parent, else its host. -/
def ovF (x : S115) : Int := if x.f1 = 0 then x.f2 else x.f1
def EndsO (l : List S115) : Nat → Int → Prop
  | 0, id => nodeF l id = none
  | k + 1, id => ∀ x, nodeF l id = some x → EndsO l k (ovF x)
/-- A node, and what is above it. -/
def overL (l : List S115) : Nat → Int → List Int
  | 0, _ => []
  | k + 1, id => match nodeF l id with
    | none => []
    | some x => id :: overL l k (ovF x)
theorem overL_none {l : List S115} {id : Int} (h : nodeF l id = none) : ∀ k, overL l k id = []
  | 0 => rfl
  | k + 1 => by rw [overL, h]
theorem overL_some {l : List S115} {id : Int} {x : S115} (h : nodeF l id = some x) (k : Nat) : overL l (k + 1) id = id :: overL l k (ovF x) := by rw [overL, h]
theorem EndsO.none {l : List S115} {id : Int} (h : nodeF l id = none) : ∀ k, EndsO l k id
  | 0 => h
  | k + 1 => fun x hx => by rw [h] at hx; cases hx
theorem overL_more {l : List S115} : ∀ (k m : Nat) (id : Int), EndsO l k id → overL l (k + m) id = overL l k id
  | 0, m, id, h => by rw [overL_none h, overL_none h]
  | k + 1, m, id, h => by
    rw [show k + 1 + m = (k + m) + 1 by omega, overL, overL]
    cases hn : nodeF l id with
    | none => rfl
    | some x => simp only; rw [overL_more k m _ (h x hn)]
theorem nodeF_zero (l : List S115) : nodeF l 0 = none := by unfold nodeF; rw [if_neg (by omega)]
/-- The numbers of parents and hosts are nodes' numbers, or 0. -/
def linksOk (l : List S115) : Prop := ∀ x ∈ l, 0 ≤ x.f1 ∧ x.f1 ≤ l.length ∧ 0 ≤ x.f2 ∧ x.f2 ≤ l.length
theorem linksOk.ov {l : List S115} (h : linksOk l) {x : S115} (hx : x ∈ l) : 0 ≤ ovF x ∧ ovF x ≤ l.length := by
  obtain ⟨h1, h2, h3, h4⟩ := h x hx
  unfold ovF
  split <;> omega

set_option maxRecDepth 100000 in
set_option maxHeartbeats 1600000 in
theorem over_any (F : Nat) (a b : Int) (l : List S115) (w : World) (h : FoR w F l) (hL : linksOk l) (he : EndsO l l.length b) (hb0 : 0 ≤ b) (hbl : b ≤ l.length) :
    Calls Tryz.prog 120 #[.pointer (some ⟨F, 0, none⟩), .int .i64 a, .int .i64 b] w fun e w' => e = .returned (.bool (decide (a ∈ overL l l.length b))) ∧ w' = w := by
  have h128 : l.length ≤ 128 := by obtain ⟨_, _, _, _, _, h3⟩ := h; exact h3
  obtain ⟨N, hN⟩ : ∃ N, N = l.length := ⟨_, rfl⟩
  rw [← hN] at he ⊢
  have hN128 : N ≤ 128 := by omega
  clear hN
  go_enter Tryz.func120, Tryz.ntmps120
  go_wp2
  go_loopg [2, 7] N (fun gk v2 _ wr => ∃ (i : Int), v2 = .int .i64 i ∧ 0 ≤ i ∧ i ≤ l.length ∧ Hd (EndsO l gk i) ∧ Hd (decide (a ∈ overL l N b) = decide (a ∈ overL l gk i)) ∧ wr = w)
  case atStart => exact ⟨b, rfl, hb0, hbl, ⟨he⟩, ⟨rfl⟩, rfl⟩
  case round =>
    obtain ⟨i, rfl, hi0, hil, HE, HU, rfl⟩ := hrel
    clear he hb0 hbl
    by_cases hz : i = 0
    · subst hz
      have HF : Hd (decide (a ∈ overL l N b) = false) := ⟨by rw [HU.out, overL_none (nodeF_zero l)]; rfl⟩
      clear HU
      go_wp2
      go_ret
      exact ⟨by rw [HF.out]; rfl, rfl⟩
    · obtain ⟨j, rfl⟩ : ∃ j : Nat, i = ((j + 1 : Nat) : Int) := ⟨(i - 1).toNat, by omega⟩
      have hj : j < l.length := by omega
      obtain ⟨x, hx⟩ : ∃ x, l[j]? = some x := ⟨_, List.getElem?_eq_getElem hj⟩
      have hn := nodeF_at hx
      cases gk with
      | zero => exact absurd (show nodeF l _ = none from HE.out) (by rw [hn]; simp)
      | succ k1 =>
        have hE' := HE.out x hn
        have q0 : (0 : Int) < ((j + 1 : Nat) : Int) := by omega
        by_cases ha : a = ((j + 1 : Nat) : Int)
        · have HF : Hd (decide (a ∈ overL l N b) = true) := ⟨by rw [HU.out, overL_some hn]; simp only [List.mem_cons, ha, false_or, true_or, decide_true]⟩
          clear HU hE' hn hx hi0 hil hz HE
          have q1 : (a == ((j + 1 : Nat) : Int)) = true := by simp [ha]
          clear ha
          go_wp2
          go_ret
          exact ⟨by rw [HF.out]; rfl, rfl⟩
        · have HP : Hd (decide (a ∈ overL l N b) = decide (a ∈ overL l k1 (ovF x))) := ⟨by rw [HU.out, overL_some hn]; simp only [List.mem_cons, ha, false_or, true_or, decide_true]⟩
          obtain ⟨g, cap, A8, c8, hF, k0, p1, p2, -, -, -, -, -, -, -, -⟩ := node_at h hx
          have hat := at_some F j l wr g cap hF hj h128
          have hov := hL.ov (List.mem_of_getElem? hx)
          clear HU HE hn hx hi0 hil hz hF k0
          have q1 : (a == ((j + 1 : Nat) : Int)) = false := by simpa using ha
          clear ha
          by_cases h1 : x.f1 = 0
          · have e1 : ovF x = x.f2 := by unfold ovF; rw [if_pos h1]
            rw [e1] at HP hov hE'
            rw [h1] at p1
            clear e1 h1
            go_wp2_with (go_at_call 64; refine hat.mono ?_; rintro e w2 ⟨rfl, hw2⟩; obtain rfl := hw2.symm)
            go_roundg k1
            case rel => exact ⟨_, rfl, hov.1, hov.2, ⟨hE'⟩, HP, rfl⟩
            case measure => omega
          · have e1 : ovF x = x.f1 := by unfold ovF; rw [if_neg h1]
            rw [e1] at HP hov hE'
            have q2 : (x.f1 == 0) = false := by simpa using h1
            clear e1 h1
            go_wp2_with (go_at_call 64; refine hat.mono ?_; rintro e w2 ⟨rfl, hw2⟩; obtain rfl := hw2.symm)
            go_roundg k1
            case rel => exact ⟨_, rfl, hov.1, hov.2, ⟨hE'⟩, HP, rfl⟩
            case measure => omega
end Go.Proofs.YtgopddjmmoohdaaGreatDoor

/- A forest that may be written: its nodes' cells, and what a store leaves. -/
set_option linter.unusedSimpArgs false
namespace Go.Proofs.YtgopddjmmoohdaaGreatDoor
open Go.RowKit Go.Proofs.YtgopddjmmoohdaaGreatDoorW.PrintWords Go.Proofs.YtgopddjmmoohdaaGreatDoorW.PrintLast Go.Proofs.YtgopddjmmoohdaaGreatDoor.PPlaySilent

/-- What a walk over the forest at F leaves: what lay in w0 stands; of what lay in ws only F and blocks of Q may be written; what is laid since is of Q. -/
structure BaseX (Q : Nat → Prop) (w0 ws w : World) (F : Nat) : Prop where
  base : Below w0.heap.size w0 w
  qb : ∀ k, Q k → w0.heap.size ≤ k
  qn : ∀ k, ws.heap.size ≤ k → Q k
  sz : ws.heap.size ≤ w.heap.size
  keep : ∀ k, k < ws.heap.size → ¬ Q k → k ≠ F → w.heap[k]? = ws.heap[k]?
theorem BaseX.below {Q : Nat → Prop} {w0 ws w w' : World} {F : Nat} (h : BaseX Q w0 ws w F) (hb : Below w.heap.size w w') : BaseX Q w0 ws w' F :=
  ⟨below_then h.base h.base.size hb, h.qb, h.qn, Nat.le_trans h.sz hb.size, fun k hk hq hf => (hb.block k (Nat.lt_of_lt_of_le hk h.sz)).trans (h.keep k hk hq hf)⟩
theorem BaseX.set {Q : Nat → Prop} {w0 ws w : World} {F g : Nat} (h : BaseX Q w0 ws w F) (hg : Q g ∨ g = F) (hg0 : w0.heap.size ≤ g) (j : Nat) (u : Value) : BaseX Q w0 ws (w.setCell ⟨g, j, none⟩ u) F :=
  ⟨below_set_cell h.base hg0 j u, h.qb, h.qn, by simpa using h.sz, fun k hk hq hf => (Below.heap_setCell w _ u k (fun e => hg.elim (fun x => hq (e ▸ x)) (fun x => hf (e.trans x)))).trans (h.keep k hk hq hf)⟩
theorem BaseX.same {Q : Nat → Prop} {w0 ws W V : World} {F : Nat} (h : BaseX Q w0 ws W F) (hk : ∀ k, k < W.heap.size → V.heap[k]? = W.heap[k]?) (hs : W.heap.size ≤ V.heap.size) (hB : Below w0.heap.size w0 V) : BaseX Q w0 ws V F :=
  ⟨hB, h.qb, h.qn, Nat.le_trans h.sz hs, fun k hlt hq hf => (hk k (Nat.lt_of_lt_of_le hlt h.sz)).trans (h.keep k hlt hq hf)⟩
theorem BaseX.grown {Q : Nat → Prop} {w0 ws W V : World} {F : Nat} {v : Value} (h : BaseX Q w0 ws W F) (hg : W.grownBy V v.ownBlock) (hv : ∀ k, v.ownBlock = some k → Q k) (hB : Below w0.heap.size w0 V) : BaseX Q w0 ws V F :=
  ⟨hB, h.qb, h.qn, Nat.le_trans h.sz hg.size, fun k hlt hq hf => (hg.block k (Nat.lt_of_lt_of_le hlt h.sz) (fun e => hq (hv k e.symm))).trans (h.keep k hlt hq hf)⟩
/-- A forest at block F, of its own since w0, in the blocks Q. -/
def FoO (Q : Nat → Prop) (w0 ws w : World) (F : Nat) (l : List S115) : Prop :=
  w0.heap.size ≤ F ∧ F < w.heap.size ∧ l.length ≤ 128 ∧ BaseX Q w0 ws w F ∧ ∃ v, w.heap[F]? = some (.cells #[v] 77 (0, 0)) ∧ Kd.N k115 115 w w0.heap.size (fun k => Q k ∧ k ≠ F) v l
theorem FoO.read {Q : Nat → Prop} {w0 ws w : World} {F : Nat} {l : List S115} (h : FoO Q w0 ws w F l) : FoR w F l := by
  obtain ⟨-, -, h3, -, v, h4, h5⟩ := h
  exact ⟨v, _, _, h4, h5, h3⟩
theorem FoO.below {Q : Nat → Prop} {w0 ws w w' : World} {F : Nat} {l : List S115} (h : FoO Q w0 ws w F l) (hb : Below w.heap.size w w') : FoO Q w0 ws w' F l := by
  obtain ⟨h1, h2, h3, hB, v, h4, h5⟩ := h
  exact ⟨h1, Nat.lt_of_lt_of_le h2 hb.size, h3, hB.below hb, v, blk_below h4 hb, Kd.N_below h5 hb⟩
theorem FoO.base {Q : Nat → Prop} {w0 ws w : World} {F : Nat} {l : List S115} (h : FoO Q w0 ws w F l) : Below w0.heap.size w0 w := h.2.2.2.1.base
theorem FoO.basex {Q : Nat → Prop} {w0 ws w : World} {F : Nat} {l : List S115} (h : FoO Q w0 ws w F l) : BaseX Q w0 ws w F := h.2.2.2.1
/-- A node's cells, and what a store into one leaves. -/
theorem FoO.node {Q : Nat → Prop} {w0 ws w : World} {F : Nat} {l : List S115} (h : FoO Q w0 ws w F l) {j : Nat} {x : S115} (hx : l[j]? = some x) :
    ∃ g cap A8 c8, w.heap[F]? = some (.cells #[.slice (some ⟨g, 0, none⟩) l.length cap] 77 (0, 0)) ∧ g ≠ F ∧ Q g ∧ g < w.heap.size ∧
      (w.cell? ⟨g, j * 9, none⟩ = some (.int .i64 x.f0) ∧ w.cell? ⟨g, j * 9 + 1, none⟩ = some (.int .i64 x.f1) ∧ w.cell? ⟨g, j * 9 + 2, none⟩ = some (.int .i64 x.f2) ∧ w.cell? ⟨g, j * 9 + 3, none⟩ = some (.int .i64 x.f3) ∧ w.cell? ⟨g, j * 9 + 4, none⟩ = some (.int .i64 x.f4) ∧
      w.cell? ⟨g, j * 9 + 5, none⟩ = some (.bool x.f5) ∧ w.cell? ⟨g, j * 9 + 6, none⟩ = some (.string x.f6) ∧ w.cell? ⟨g, j * 9 + 7, none⟩ = some (.string x.f7) ∧ w.cell? ⟨g, j * 9 + 8, none⟩ = some (.slice A8 x.f8.length c8)) ∧
      (∀ i, w.frozen? ⟨g, j * 9 + i, none⟩ = false) ∧ (x.f8.length ≤ c8 ∧ (Kd.int .i64).F w (fun k => (Q k ∧ k ≠ F) ∧ k ≠ g) A8 x.f8.length x.f8) ∧
      (∀ v, FoO Q w0 ws (w.setCell ⟨g, j * 9 + 1, none⟩ (.int .i64 v)) F (l.set j { x with f1 := v })) ∧ (∀ v, FoO Q w0 ws (w.setCell ⟨g, j * 9 + 2, none⟩ (.int .i64 v)) F (l.set j { x with f2 := v })) ∧ (∀ v, FoO Q w0 ws (w.setCell ⟨g, j * 9 + 3, none⟩ (.int .i64 v)) F (l.set j { x with f3 := v })) ∧
      (∀ s, FoO Q w0 ws (w.setCell ⟨g, j * 9 + 6, none⟩ (.string s)) F (l.set j { x with f6 := s })) ∧ (∀ s, FoO Q w0 ws (w.setCell ⟨g, j * 9 + 7, none⟩ (.string s)) F (l.set j { x with f7 := s })) ∧
      (∀ A c (ks : List Int), ks.length ≤ c → (Kd.int .i64).F w (fun k => (Q k ∧ k ≠ F) ∧ k ≠ g) A ks.length ks → FoO Q w0 ws (w.setCell ⟨g, j * 9 + 8, none⟩ (.slice A ks.length c)) F (l.set j { x with f8 := ks })) := by
  obtain ⟨h1, h2, h3, hB, v, h4, hN⟩ := h
  have hlt := (List.getElem?_eq_some_iff.1 hx).1
  obtain ⟨g, cap, rfl, hgb, hgs, -⟩ := Kd.N_form hN (by omega)
  have hgF : g ≠ F := (hN.1 g rfl).2
  have hgQ : Q g := (hN.1 g rfl).1
  obtain ⟨c, hcl, hFK, hcc, hfr⟩ := Kd.N_elem hN z115 (j : Int) (by omega) (by omega)
  have hxd : l.getD (j : Int).toNat z115 = x := by rw [Int.toNat_natCast, List.getD_eq_getElem?_getD, hx]; rfl
  rw [hxd] at hFK
  obtain ⟨A8, c8, rfl, l8, g8⟩ := k115_openF hFK
  rw [Int.toNat_natCast] at hcc hfr
  have key : ∀ (i : Nat) (u : Value) (x' : S115) (hi : i < 9), k115.FK w (fun k => (Q k ∧ k ≠ F) ∧ k ≠ g) x' ([Value.int .i64 x.f0, .int .i64 x.f1, .int .i64 x.f2, .int .i64 x.f3, .int .i64 x.f4, .bool x.f5, .string x.f6, .string x.f7, .slice A8 x.f8.length c8].take i ++ [u] ++ [Value.int .i64 x.f0, .int .i64 x.f1, .int .i64 x.f2, .int .i64 x.f3, .int .i64 x.f4, .bool x.f5, .string x.f6, .string x.f7, .slice A8 x.f8.length c8].drop (i + 1)) →
      FoO Q w0 ws (w.setCell ⟨g, j * 9 + i, none⟩ u) F (l.set j x') := fun i u x' hi hM => by
    have hs := Kd.N_seg hN (j : Int) (by omega) (by omega) (seg := [u]) (j := i) hcl (by rw [Int.toNat_natCast]; exact hcc) (show i + 1 ≤ 9 by omega) (x' := x') hM (fun _ hk => hk)
    rw [Int.toNat_natCast] at hs
    refine ⟨h1, ?_, by simpa using h3, hB.set (.inl hgQ) hgb _ _, .slice (some ⟨g, 0, none⟩) l.length cap, ?_, hs.1⟩
    · exact Nat.lt_of_lt_of_le h2 (Nat.le_of_eq (by simp))
    · exact (Below.heap_setCell w _ u F (Ne.symm hgF)).trans h4
  refine ⟨g, cap, A8, c8, h4, hgF, hgQ, hgs, ⟨hcc 0 _ rfl, hcc 1 _ rfl, hcc 2 _ rfl, hcc 3 _ rfl, hcc 4 _ rfl, hcc 5 _ rfl, hcc 6 _ rfl, hcc 7 _ rfl, hcc 8 _ rfl⟩, hfr, ⟨l8, g8⟩, ?_, ?_, ?_, ?_, ?_, ?_⟩
  · exact fun v => key 1 _ _ (by omega) (k115_mkF w _ { x with f1 := v } l8 g8)
  · exact fun v => key 2 _ _ (by omega) (k115_mkF w _ { x with f2 := v } l8 g8)
  · exact fun v => key 3 _ _ (by omega) (k115_mkF w _ { x with f3 := v } l8 g8)
  · exact fun v => key 6 _ _ (by omega) (k115_mkF w _ { x with f6 := v } l8 g8)
  · exact fun v => key 7 _ _ (by omega) (k115_mkF w _ { x with f7 := v } l8 g8)
  · exact fun A c ks hl hF => key 8 _ _ (by omega) (k115_mkF w _ { x with f8 := ks } hl hF)
/-- The cells of node j of the forest at F, in the row at g, and what a store into one leaves. -/
structure NodeAt (Q : Nat → Prop) (w0 ws W : World) (F : Nat) (l : List S115) (j : Nat) (x : S115) (g : Nat) : Prop where
  k0 : W.cell? ⟨g, j * 9, none⟩ = some (.int .i64 x.f0)
  k1 : W.cell? ⟨g, j * 9 + 1, none⟩ = some (.int .i64 x.f1)
  k2 : W.cell? ⟨g, j * 9 + 2, none⟩ = some (.int .i64 x.f2)
  k3 : W.cell? ⟨g, j * 9 + 3, none⟩ = some (.int .i64 x.f3)
  k4 : W.cell? ⟨g, j * 9 + 4, none⟩ = some (.int .i64 x.f4)
  k5 : W.cell? ⟨g, j * 9 + 5, none⟩ = some (.bool x.f5)
  k6 : W.cell? ⟨g, j * 9 + 6, none⟩ = some (.string x.f6)
  k7 : W.cell? ⟨g, j * 9 + 7, none⟩ = some (.string x.f7)
  k8 : ∃ A c, W.cell? ⟨g, j * 9 + 8, none⟩ = some (.slice A x.f8.length c) ∧ x.f8.length ≤ c ∧ (Kd.int .i64).F W (fun k => (Q k ∧ k ≠ F) ∧ k ≠ g) A x.f8.length x.f8
  fr : ∀ i, W.frozen? ⟨g, j * 9 + i, none⟩ = false
  s1 : ∀ v, FoO Q w0 ws (W.setCell ⟨g, j * 9 + 1, none⟩ (.int .i64 v)) F (l.set j { x with f1 := v })
  s2 : ∀ v, FoO Q w0 ws (W.setCell ⟨g, j * 9 + 2, none⟩ (.int .i64 v)) F (l.set j { x with f2 := v })
  s3 : ∀ v, FoO Q w0 ws (W.setCell ⟨g, j * 9 + 3, none⟩ (.int .i64 v)) F (l.set j { x with f3 := v })
  s6 : ∀ s, FoO Q w0 ws (W.setCell ⟨g, j * 9 + 6, none⟩ (.string s)) F (l.set j { x with f6 := s })
  s7 : ∀ s, FoO Q w0 ws (W.setCell ⟨g, j * 9 + 7, none⟩ (.string s)) F (l.set j { x with f7 := s })
  s8 : ∀ A c (ks : List Int), ks.length ≤ c → (Kd.int .i64).F W (fun k => (Q k ∧ k ≠ F) ∧ k ≠ g) A ks.length ks → FoO Q w0 ws (W.setCell ⟨g, j * 9 + 8, none⟩ (.slice A ks.length c)) F (l.set j { x with f8 := ks })
/-- The same in any later world in which the forest's blocks stand, at one row's block. -/
theorem FoO.nodes {Q : Nat → Prop} {w0 ws w : World} {F : Nat} {l : List S115} (h : FoO Q w0 ws w F l) (hp : 0 < l.length) :
    ∃ g cap, w.heap[F]? = some (.cells #[.slice (some ⟨g, 0, none⟩) l.length cap] 77 (0, 0)) ∧ Q g ∧ g < w.heap.size ∧ g ≠ F ∧
      ∀ (W : World) (l' : List S115), FoO Q w0 ws W F l' → l'.length = l.length → W.heap[F]? = w.heap[F]? → ∀ j x, l'[j]? = some x → NodeAt Q w0 ws W F l' j x g := by
  obtain ⟨x0, hx0⟩ : ∃ x, l[0]? = some x := ⟨_, List.getElem?_eq_getElem hp⟩
  obtain ⟨g, cap, -, -, hF, hgF, hg0, hgs, -⟩ := h.node hx0
  refine ⟨g, cap, hF, hg0, hgs, hgF, fun W l' hW hl' hWF j x hx => ?_⟩
  obtain ⟨g', cap', A8, c8, hF', -, -, -, ⟨k0, k1, k2, k3, k4, k5, k6, k7, k8⟩, fr, h8, s1, s2, s3, s6, s7, s8⟩ := hW.node hx
  rw [hWF, hF] at hF'
  simp only [Option.some.injEq, Obj.cells.injEq, Array.mk.injEq, List.cons.injEq, Value.slice.injEq, Addr.mk.injEq, and_true, true_and] at hF'
  obtain rfl := hF'.1
  exact ⟨k0, k1, k2, k3, k4, k5, k6, k7, ⟨A8, c8, k8, h8.1, h8.2⟩, fr, s1, s2, s3, s6, s7, s8⟩
theorem FoO.nodeB {Q : Nat → Prop} {w0 ws w : World} {F : Nat} {l : List S115} (h : FoO Q w0 ws w F l) {j : Nat} {x : S115} (hx : l[j]? = some x) :
    ∃ g cap, w.heap[F]? = some (.cells #[.slice (some ⟨g, 0, none⟩) l.length cap] 77 (0, 0)) ∧ Q g ∧ g < w.heap.size ∧ g ≠ F ∧ ∀ W, Below w.heap.size w W → NodeAt Q w0 ws W F l j x g := by
  obtain ⟨g, cap, hF, h1, h2, h3, hN⟩ := h.nodes (by have := (List.getElem?_eq_some_iff.1 hx).1; omega)
  exact ⟨g, cap, hF, h1, h2, h3, fun W hb => hN W l (h.below hb) rfl (by rw [blk_below hF hb, hF]) j x hx⟩

/-- Name. -/
def nameF (l : List S115) (id : Int) (s : ByteArray) : List S115 := match nodeF l id with
  | none => l
  | some x => if namedW s = true then if x.f5 = true then l.set (id - 1).toNat { x with f6 := s } else l else l
/-- Want. -/
def wantF (l : List S115) (id : Int) (s : ByteArray) : List S115 := match nodeF l id with
  | none => l
  | some x => if namedW s = true then if x.f0 = 2 then l.set (id - 1).toNat { x with f7 := s } else l else l
/-- Their errors. -/
def nameE (l : List S115) (id : Int) (s : ByteArray) : Int := match nodeF l id with
  | none => 1
  | some x => if namedW s = true then if x.f5 = true then 0 else 2 else 1
def wantE (l : List S115) (id : Int) (s : ByteArray) : Int := match nodeF l id with
  | none => 1
  | some x => if namedW s = true then if x.f0 = 2 then 0 else 2 else 1
set_option maxRecDepth 100000 in
set_option maxHeartbeats 1600000 in
theorem name_any (F : Nat) (id : Int) (s : ByteArray) (l : List S115) (Q : Nat → Prop) (w0 ws w : World) (h : FoO Q w0 ws w F l) :
    Calls Tryz.prog 43 #[.pointer (some ⟨F, 0, none⟩), .int .i64 id, .string s] w fun e w' => e = .returned (.int .i64 (nameE l id s)) ∧ FoO Q w0 ws w' F (nameF l id s) := by
  cases hn : nodeF l id with
  | none =>
    have H : Hd (nameF l id s = l) := ⟨by unfold nameF; rw [hn]⟩
    have HE : Hd (nameE l id s = 1) := ⟨by unfold nameE; rw [hn]⟩
    have hat := at_none F id l w h.read hn
    clear hn
    go_enter Tryz.func43, Tryz.ntmps43
    go_wp2_with (go_at_call 64; refine hat.mono ?_; rintro e w2 ⟨rfl, hw2⟩; obtain rfl := hw2.symm)
    go_ret
    exact ⟨by rw [HE.out]; try rfl, by rw [H.out]; exact h⟩
  | some x =>
    obtain ⟨j, rfl, hj, hx⟩ := nodeF_some hn
    have H : Hd (nameF l ((j + 1 : Nat) : Int) s = if namedW s = true then if x.f5 = true then l.set j { x with f6 := s } else l else l) := ⟨by
      unfold nameF; rw [hn, show (((j + 1 : Nat) : Int) - 1).toNat = j by omega]⟩
    have HE : Hd (nameE l ((j + 1 : Nat) : Int) s = if namedW s = true then if x.f5 = true then 0 else 2 else 1) := ⟨by unfold nameE; rw [hn]⟩
    obtain ⟨g, cap, hF, -, -, -, hN⟩ := h.nodeB hx
    have hat := at_some F j l w g cap hF hj h.2.2.1
    have hnm := named_any s w
    clear hn hx hF
    cases hs : namedW s with
    | false =>
      rw [hs] at hnm H HE
      clear hs
      go_enter Tryz.func43, Tryz.ntmps43
      go_wp2_with (first
        | (go_at_call 64; refine hat.mono ?_; rintro e w2 ⟨rfl, hw2⟩; obtain rfl := hw2.symm)
        | (go_at_call 65; refine hnm.mono ?_; rintro e w2 ⟨rfl, hb2⟩))
      go_ret
      exact ⟨by rw [HE.out]; try rfl, by rw [H.out]; exact h.below hb2⟩
    | true =>
      rw [hs] at hnm H HE
      clear hs
      cases h5 : x.f5 with
      | false =>
        rw [h5] at H HE
        go_enter Tryz.func43, Tryz.ntmps43
        go_wp2_with (first
          | (go_at_call 64; refine hat.mono ?_; rintro e w2 ⟨rfl, hw2⟩; obtain rfl := hw2.symm)
          | (go_at_call 65; refine hnm.mono ?_; rintro e w2 ⟨rfl, hb2⟩; obtain ⟨-, -, -, -, -, k5, -, -, -, -, -, -, -, -, -, -⟩ := hN w2 hb2; rw [h5] at k5; clear h5))
        go_ret
        exact ⟨by rw [HE.out]; try rfl, by rw [H.out]; exact h.below hb2⟩
      | true =>
        have H2 : Hd (nameF l ((j + 1 : Nat) : Int) s = l.set j { x with f6 := s }) := ⟨by rw [H.out, if_pos rfl, if_pos h5]⟩
        have HE2 : Hd (nameE l ((j + 1 : Nat) : Int) s = 0) := ⟨by rw [HE.out, if_pos rfl, if_pos h5]⟩
        go_enter Tryz.func43, Tryz.ntmps43
        go_wp2_with (first
          | (go_at_call 64; refine hat.mono ?_; rintro e w2 ⟨rfl, hw2⟩; obtain rfl := hw2.symm)
          | (go_at_call 65; refine hnm.mono ?_; rintro e w2 ⟨rfl, hb2⟩; obtain ⟨-, -, -, -, -, k5, k6, -, -, fr, -, -, -, s6, -, -⟩ := hN w2 hb2; have fr6 := fr 6; rw [h5] at k5; clear h5))
        go_ret
        exact ⟨by rw [HE2.out]; try rfl, by rw [H2.out]; exact s6 s⟩
set_option maxRecDepth 100000 in
set_option maxHeartbeats 1600000 in
theorem want_any (F : Nat) (id : Int) (s : ByteArray) (l : List S115) (Q : Nat → Prop) (w0 ws w : World) (h : FoO Q w0 ws w F l) :
    Calls Tryz.prog 42 #[.pointer (some ⟨F, 0, none⟩), .int .i64 id, .string s] w fun e w' => e = .returned (.int .i64 (wantE l id s)) ∧ FoO Q w0 ws w' F (wantF l id s) := by
  cases hn : nodeF l id with
  | none =>
    have H : Hd (wantF l id s = l) := ⟨by unfold wantF; rw [hn]⟩
    have HE : Hd (wantE l id s = 1) := ⟨by unfold wantE; rw [hn]⟩
    have hat := at_none F id l w h.read hn
    clear hn
    go_enter Tryz.func42, Tryz.ntmps42
    go_wp2_with (go_at_call 64; refine hat.mono ?_; rintro e w2 ⟨rfl, hw2⟩; obtain rfl := hw2.symm)
    go_ret
    exact ⟨by rw [HE.out]; try rfl, by rw [H.out]; exact h⟩
  | some x =>
    obtain ⟨j, rfl, hj, hx⟩ := nodeF_some hn
    have H : Hd (wantF l ((j + 1 : Nat) : Int) s = if namedW s = true then if x.f0 = 2 then l.set j { x with f7 := s } else l else l) := ⟨by
      unfold wantF; rw [hn, show (((j + 1 : Nat) : Int) - 1).toNat = j by omega]⟩
    have HE : Hd (wantE l ((j + 1 : Nat) : Int) s = if namedW s = true then if x.f0 = 2 then 0 else 2 else 1) := ⟨by unfold wantE; rw [hn]⟩
    obtain ⟨g, cap, hF, -, -, -, hN⟩ := h.nodeB hx
    have hat := at_some F j l w g cap hF hj h.2.2.1
    have hnm := named_any s w
    clear hn hx hF
    cases hs : namedW s with
    | false =>
      rw [hs] at hnm H HE
      clear hs
      go_enter Tryz.func42, Tryz.ntmps42
      go_wp2_with (first
        | (go_at_call 64; refine hat.mono ?_; rintro e w2 ⟨rfl, hw2⟩; obtain rfl := hw2.symm)
        | (go_at_call 65; refine hnm.mono ?_; rintro e w2 ⟨rfl, hb2⟩))
      go_ret
      exact ⟨by rw [HE.out]; try rfl, by rw [H.out]; exact h.below hb2⟩
    | true =>
      rw [hs] at hnm H HE
      clear hs
      by_cases h5 : x.f0 = 2
      rotate_left
      · rw [if_pos rfl, if_neg h5] at H HE
        have q5 : (x.f0 == 2) = false := by simpa using h5
        go_enter Tryz.func42, Tryz.ntmps42
        go_wp2_with (first
          | (go_at_call 64; refine hat.mono ?_; rintro e w2 ⟨rfl, hw2⟩; obtain rfl := hw2.symm)
          | (go_at_call 65; refine hnm.mono ?_; rintro e w2 ⟨rfl, hb2⟩; obtain ⟨k0, -, -, -, -, -, -, -, -, -, -, -, -, -, -, -⟩ := hN w2 hb2))
        go_ret
        exact ⟨by rw [HE.out]; try rfl, by rw [H.out]; exact h.below hb2⟩
      · have q5 := h5
        have H2 : Hd (wantF l ((j + 1 : Nat) : Int) s = l.set j { x with f7 := s }) := ⟨by rw [H.out, if_pos rfl, if_pos h5]⟩
        have HE2 : Hd (wantE l ((j + 1 : Nat) : Int) s = 0) := ⟨by rw [HE.out, if_pos rfl, if_pos h5]⟩
        go_enter Tryz.func42, Tryz.ntmps42
        go_wp2_with (first
          | (go_at_call 64; refine hat.mono ?_; rintro e w2 ⟨rfl, hw2⟩; obtain rfl := hw2.symm)
          | (go_at_call 65; refine hnm.mono ?_; rintro e w2 ⟨rfl, hb2⟩; obtain ⟨k0, -, -, -, -, -, -, k7, -, fr, -, -, -, -, s7, -⟩ := hN w2 hb2; have fr7 := fr 7))
        go_ret
        exact ⟨by rw [HE2.out]; try rfl, by rw [H2.out]; exact s7 s⟩
end Go.Proofs.YtgopddjmmoohdaaGreatDoor

/- arena.Tie. -/
set_option linter.unusedSimpArgs false
namespace Go.Proofs.YtgopddjmmoohdaaGreatDoor
open Go.RowKit Go.Proofs.YtgopddjmmoohdaaGreatDoorW.PrintWords Go.Proofs.YtgopddjmmoohdaaGreatDoorW.PrintLast Go.Proofs.YtgopddjmmoohdaaGreatDoor.PPlaySilent

/-- Tie. -/
def tieF (l : List S115) (h r : Int) : List S115 := match nodeF l h with
  | none => l
  | some x => match nodeF l r with
    | none => l
    | some y => if x.f0 = 2 then if y.f0 = 3 then if x.f3 = 0 then if y.f2 = 0 then if r ∈ overL l l.length h then l else (l.set (h - 1).toNat { x with f3 := r }).set (r - 1).toNat { y with f2 := h } else l else l else l else l
def tieE (l : List S115) (h r : Int) : Int := match nodeF l h with
  | none => 1
  | some x => match nodeF l r with
    | none => 1
    | some y => if x.f0 = 2 then if y.f0 = 3 then if x.f3 = 0 then if y.f2 = 0 then if r ∈ overL l l.length h then 3 else 0 else 6 else 6 else 2 else 2
theorem tieE_none {l : List S115} {h : Int} (r : Int) (hn : nodeF l h = none) : tieE l h r = 1 := by unfold tieE; rw [hn]
theorem tieE_none2 {l : List S115} {h r : Int} {x : S115} (hn : nodeF l h = some x) (hr : nodeF l r = none) : tieE l h r = 1 := by unfold tieE; rw [hn]; simp only; rw [hr]
theorem tieE_some {l : List S115} {h r : Int} {x y : S115} (hn : nodeF l h = some x) (hr : nodeF l r = some y) : tieE l h r = if x.f0 = 2 then if y.f0 = 3 then if x.f3 = 0 then if y.f2 = 0 then if r ∈ overL l l.length h then 3 else 0 else 6 else 6 else 2 else 2 := by
  unfold tieE; rw [hn]; simp only; rw [hr]
theorem tieF_none {l : List S115} {h : Int} (r : Int) (hn : nodeF l h = none) : tieF l h r = l := by unfold tieF; rw [hn]
theorem tieF_none2 {l : List S115} {h r : Int} {x : S115} (hn : nodeF l h = some x) (hr : nodeF l r = none) : tieF l h r = l := by unfold tieF; rw [hn]; simp only; rw [hr]
theorem tieF_some {l : List S115} {h r : Int} {x y : S115} (hn : nodeF l h = some x) (hr : nodeF l r = some y) : tieF l h r = if x.f0 = 2 then if y.f0 = 3 then if x.f3 = 0 then if y.f2 = 0 then if r ∈ overL l l.length h then l else (l.set (h - 1).toNat { x with f3 := r }).set (r - 1).toNat { y with f2 := h } else l else l else l else l := by
  unfold tieF; rw [hn]; simp only; rw [hr]
set_option maxRecDepth 100000 in
set_option maxHeartbeats 1600000 in
theorem tie_any (F : Nat) (a b : Int) (l : List S115) (Q : Nat → Prop) (w0 ws w : World) (h : FoO Q w0 ws w F l) (hL : linksOk l) (hE : ∀ id, EndsO l l.length id) :
    Calls Tryz.prog 72 #[.pointer (some ⟨F, 0, none⟩), .int .i64 a, .int .i64 b] w fun e w' => e = .returned (.int .i64 (tieE l a b)) ∧ FoO Q w0 ws w' F (tieF l a b) := by
  cases hn : nodeF l a with
  | none =>
    have H : Hd (tieF l a b = l) := ⟨tieF_none b hn⟩
    have HE : Hd (tieE l a b = 1) := ⟨tieE_none b hn⟩
    have hat := at_none F a l w h.read hn
    clear hn
    cases hm : nodeF l b with
    | none =>
      have hat2 := at_none F b l w h.read hm
      clear hm
      go_enter Tryz.func72, Tryz.ntmps72
      go_wp2_with (go_at_call 64; first
        | (with_reducible refine hat.mono ?_; rintro e w2 ⟨rfl, hw2⟩; obtain rfl := hw2.symm)
        | (with_reducible refine hat2.mono ?_; rintro e w2 ⟨rfl, hw2⟩; obtain rfl := hw2.symm))
      go_ret
      exact ⟨by rw [HE.out]; try rfl, by rw [H.out]; exact h⟩
    | some y =>
      obtain ⟨j2, hjb, hj2, hy⟩ := nodeF_some hm
      obtain ⟨g, cap, hF, -, -, -, hN⟩ := h.nodeB hy
      have hat2 := at_some F j2 l w g cap hF hj2 h.2.2.1
      rw [← hjb] at hat2
      clear hm hy hF hN hjb
      go_enter Tryz.func72, Tryz.ntmps72
      go_wp2_with (go_at_call 64; first
        | (with_reducible refine hat.mono ?_; rintro e w2 ⟨rfl, hw2⟩; obtain rfl := hw2.symm)
        | (with_reducible refine hat2.mono ?_; rintro e w2 ⟨rfl, hw2⟩; obtain rfl := hw2.symm))
      go_ret
      exact ⟨by rw [HE.out]; try rfl, by rw [H.out]; exact h⟩
  | some x =>
    obtain ⟨j, hja, hj, hx⟩ := nodeF_some hn
    obtain ⟨g, cap, hF, hg0, hgs, hgF, hN⟩ := h.nodes (by omega)
    have hat := at_some F j l w g cap hF hj h.2.2.1
    rw [← hja] at hat
    have hNx := hN w l h rfl rfl j x hx
    cases hm : nodeF l b with
    | none =>
      have H : Hd (tieF l a b = l) := ⟨tieF_none2 hn hm⟩
      have HE : Hd (tieE l a b = 1) := ⟨tieE_none2 hn hm⟩
      have hat2 := at_none F b l w h.read hm
      clear hm hn hF hN hx hNx hja
      go_enter Tryz.func72, Tryz.ntmps72
      go_wp2_with (go_at_call 64; first
        | (with_reducible refine hat.mono ?_; rintro e w2 ⟨rfl, hw2⟩; obtain rfl := hw2.symm)
        | (with_reducible refine hat2.mono ?_; rintro e w2 ⟨rfl, hw2⟩; obtain rfl := hw2.symm))
      go_ret
      exact ⟨by rw [HE.out]; try rfl, by rw [H.out]; exact h⟩
    | some y =>
      obtain ⟨j2, hjb, hj2, hy⟩ := nodeF_some hm
      have hat2 := at_some F j2 l w g cap hF hj2 h.2.2.1
      rw [← hjb] at hat2
      have hNy := hN w l h rfl rfl j2 y hy
      have H := hd_ (tieF_some hn hm)
      have HE := hd_ (tieE_some hn hm)
      have hov := over_any F b a l w h.read hL (hE _) (by omega) (by omega)
      rw [show (a - 1).toNat = j by omega, show (b - 1).toNat = j2 by omega] at H
      obtain ⟨k0, -, -, k3, -, -, -, -, -, fr, -, -, s3, -, -, -⟩ := hNx
      obtain ⟨m0, -, m2, -, -, -, -, -, -, -, -, -, -, -, -, -⟩ := hNy
      clear hn hm hL hE hja hjb
      by_cases c1 : x.f0 = 2
      rotate_left
      · rw [if_neg c1] at H HE
        have q1 : (x.f0 == 2) = false := by simpa using c1
        clear hF hN hx hy s3 c1
        go_enter Tryz.func72, Tryz.ntmps72
        go_wp2_with (go_at_call 64; first
          | (with_reducible refine hat.mono ?_; rintro e w2 ⟨rfl, hw2⟩; obtain rfl := hw2.symm)
          | (with_reducible refine hat2.mono ?_; rintro e w2 ⟨rfl, hw2⟩; obtain rfl := hw2.symm))
        go_ret
        exact ⟨by rw [HE.out]; try rfl, by rw [H.out]; exact h⟩
      · rw [if_pos c1] at H HE
        rw [c1] at k0
        by_cases c2 : y.f0 = 3
        rotate_left
        · rw [if_neg c2] at H HE
          have q2 : (y.f0 == 3) = false := by simpa using c2
          clear hF hN hx hy s3 c1 c2
          go_enter Tryz.func72, Tryz.ntmps72
          go_wp2_with (go_at_call 64; first
            | (with_reducible refine hat.mono ?_; rintro e w2 ⟨rfl, hw2⟩; obtain rfl := hw2.symm)
            | (with_reducible refine hat2.mono ?_; rintro e w2 ⟨rfl, hw2⟩; obtain rfl := hw2.symm))
          go_ret
          exact ⟨by rw [HE.out]; try rfl, by rw [H.out]; exact h⟩
        · rw [if_pos c2] at H HE
          rw [c2] at m0
          by_cases c3 : x.f3 = 0
          rotate_left
          · rw [if_neg c3] at H HE
            have q3 : (x.f3 == 0) = false := by simpa using c3
            clear hF hN hx hy s3 c1 c2 c3
            go_enter Tryz.func72, Tryz.ntmps72
            go_wp2_with (go_at_call 64; first
              | (with_reducible refine hat.mono ?_; rintro e w2 ⟨rfl, hw2⟩; obtain rfl := hw2.symm)
              | (with_reducible refine hat2.mono ?_; rintro e w2 ⟨rfl, hw2⟩; obtain rfl := hw2.symm))
            go_ret
            exact ⟨by rw [HE.out]; try rfl, by rw [H.out]; exact h⟩
          · rw [if_pos c3] at H HE
            rw [c3] at k3
            by_cases c4 : y.f2 = 0
            rotate_left
            · rw [if_neg c4] at H HE
              have q4 : (y.f2 == 0) = false := by simpa using c4
              clear hF hN hx hy s3 c1 c2 c3 c4
              go_enter Tryz.func72, Tryz.ntmps72
              go_wp2_with (go_at_call 64; first
                | (with_reducible refine hat.mono ?_; rintro e w2 ⟨rfl, hw2⟩; obtain rfl := hw2.symm)
                | (with_reducible refine hat2.mono ?_; rintro e w2 ⟨rfl, hw2⟩; obtain rfl := hw2.symm))
              go_ret
              exact ⟨by rw [HE.out]; try rfl, by rw [H.out]; exact h⟩
            · rw [if_pos c4] at H HE
              rw [c4] at m2
              by_cases c5 : b ∈ overL l l.length a
              · rw [if_pos c5] at H HE
                rw [decide_eq_true c5] at hov
                clear hF hN hx hy s3 c1 c2 c3 c4 c5
                go_enter Tryz.func72, Tryz.ntmps72
                go_wp2_with (first
                  | (go_at_call 120; refine hov.mono ?_; rintro e w2 ⟨rfl, hw2⟩; obtain rfl := hw2.symm)
                  | (go_at_call 64; first
                    | (with_reducible refine hat.mono ?_; rintro e w2 ⟨rfl, hw2⟩; obtain rfl := hw2.symm)
                    | (with_reducible refine hat2.mono ?_; rintro e w2 ⟨rfl, hw2⟩; obtain rfl := hw2.symm)))
                go_ret
                exact ⟨by rw [HE.out]; try rfl, by rw [H.out]; exact h⟩
              · rw [if_neg c5] at H HE
                rw [decide_eq_false c5] at hov
                have hjj : j ≠ j2 := fun e => by
                  subst e
                  rw [hx] at hy
                  obtain rfl := Option.some.inj hy
                  omega
                have hS := s3 b
                have hN2 := hN _ _ hS (by simp) (Below.heap_setCell w _ _ F (Ne.symm hgF)) j2 y (by rw [List.getElem?_set_ne hjj]; exact hy)
                obtain ⟨-, -, n2, -, -, -, -, -, -, fr2, -, t2, -, -, -, -⟩ := hN2
                have hT := t2 a
                have fx := fr 3
                have fy := fr2 2
                clear hF hN hx hy s3 c1 c2 c3 c4 c5 fr fr2 t2
                go_enter Tryz.func72, Tryz.ntmps72
                go_wp2_with (first
                  | (go_at_call 120; refine hov.mono ?_; rintro e w2 ⟨rfl, hw2⟩; obtain rfl := hw2.symm)
                  | (go_at_call 64; first
                    | (with_reducible refine hat.mono ?_; rintro e w2 ⟨rfl, hw2⟩; obtain rfl := hw2.symm)
                    | (with_reducible refine hat2.mono ?_; rintro e w2 ⟨rfl, hw2⟩; obtain rfl := hw2.symm)))
                go_ret
                exact ⟨by rw [HE.out]; try rfl, by rw [H.out]; exact hT⟩
end Go.Proofs.YtgopddjmmoohdaaGreatDoor
