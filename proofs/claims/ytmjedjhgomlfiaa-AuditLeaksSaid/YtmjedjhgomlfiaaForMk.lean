/- arena.New, Make. -/
import Derived.Test.YtmjedjhgomlfiaaForMake
set_option linter.unusedSimpArgs false
set_option linter.unusedVariables false
namespace Go.Proofs.Ytmjedjhgomlfiaa
open Go.RowKit Go.Proofs.YtmjedjhgomlfiaaW.PrintWords Go.Proofs.YtmjedjhgomlfiaaW.PrintLast Go.Proofs.Ytmjedjhgomlfiaa.PAuditLeaks

theorem info61n : (Try.prog.info? 61).map (fun i => (i.zero, i.size, i.bytes)) = some (some zeroN, 9, 104) := by kernel_rfl
set_option maxRecDepth 100000 in
theorem new_any (w : World) : Calls Try.prog 27 #[] w fun e w' => ∃ F, e = .returned (.pointer (some ⟨F, 0, none⟩)) ∧ FoO w w' F [] := by
  go_enter Try.func27, Try.ntmps27
  go_wp2
  go_ret
  exact ⟨_, rfl, Nat.le_refl _, by simp, by simp, below_alloc (Below.refl _ _) _, .slice none 0 0, blk_new _ _, Kd.N_nil _ _ _ _ _⟩

/-- Make. -/
def makeF (l : List S61) (k m : Int) (sl : Bool) (nm wt : ByteArray) : List S61 := if okN k m sl nm wt = true then if l.length < 128 then l ++ [⟨k, 0, 0, 0, m, sl, nm, wt, []⟩] else l else l
theorem FoO.put {w0 w w1 : World} {F : Nat} {l l' : List S61} {v v1 : Value} (h : FoO w0 w F l) (hv : w.heap[F]? = some (.cells #[v] 87 (0, 0))) (hvF : some F ≠ v.ownBlock) (hN : Kd.N k61 61 w1 w0.heap.size (fun k => w0.heap.size ≤ k ∧ k ≠ F) v1 l') (hB : Below w0.heap.size w0 w1) (hg : w.grownBy w1 v.ownBlock) (hl : l'.length ≤ 128) :
    w1.heap[F]? = some (.cells #[v] 87 (0, 0)) ∧ FoO w0 (w1.setCell ⟨F, 0, none⟩ v1) F l' := by
  have h1 := blk_grown hv hg hvF
  refine ⟨h1, h.1, ?_, hl, below_set_cell hB h.1 _ _, v1, blk_put h1 0 v1 (cs' := #[v1]) rfl, Kd.N_far hN (fun k hk => hk.2) _⟩
  have := blk_lt h1
  simpa using this
set_option maxRecDepth 100000 in
set_option maxHeartbeats 6400000 in
theorem make_any (F : Nat) (k p h s m : Int) (sl : Bool) (nm wt : ByteArray) (A : Option Addr) (n c : Nat) (l : List S61) (w0 w : World) (hf : FoO w0 w F l) :
    Calls Try.prog 28 #[.pointer (some ⟨F, 0, none⟩), .agg #[.int .i64 k, .int .i64 p, .int .i64 h, .int .i64 s, .int .i64 m, .bool sl, .string nm, .string wt, .slice A n c]] w fun e w' => ∃ v, e = .returned v ∧ FoO w0 w' F (makeF l k m sl nm wt) := by
  have hr := right_node k p h s m sl nm wt A n c (w.alloc (.cells #[.int .i64 k, .int .i64 p, .int .i64 h, .int .i64 s, .int .i64 m, .bool sl, .string nm, .string wt, .slice A n c] 61))
  have hX0 := blk_new w (.cells #[.int .i64 k, .int .i64 p, .int .i64 h, .int .i64 s, .int .i64 m, .bool sl, .string nm, .string wt, .slice A n c] 61)
  have hBx := below_alloc (Below.refl _ w) (.cells #[.int .i64 k, .int .i64 p, .int .i64 h, .int .i64 s, .int .i64 m, .bool sl, .string nm, .string wt, .slice A n c] 61)
  have hl128 := hf.2.2.1
  have hFs := hf.2.1
  have hbse := hf.1
  obtain ⟨r, hrr⟩ : ∃ r, r = okN k m sl nm wt := ⟨_, rfl⟩
  have HM := hd_ (show makeF l k m sl nm wt = if r = true then if l.length < 128 then l ++ [⟨k, 0, 0, 0, m, sl, nm, wt, []⟩] else l else l by rw [hrr]; rfl)
  rw [← hrr] at hr
  clear hrr
  cases r with
  | false =>
    replace HM := hd_ (HM.out.trans (if_neg (by simp)))
    go_enter Try.func28, Try.ntmps28
    go_wp2_with (first
      | (refine gate_ (.load 61 (.tmp 3)) rfl ?_; refine wpList_load_row rfl 61 (.tmp 3) rfl w.heap.size rfl 61 _ (0, 0) _ hX0 Try.underlying61 rfl info61 ?_)
      | (go_at_call 44; refine hr.mono ?_; rintro e w1 ⟨v, rfl, hv, hb1⟩))
    go_ret2
    exact ⟨_, rfl, by rw [HM.out]; exact hf.below (below_then hBx hBx.size hb1)⟩
  | true =>
    replace HM := hd_ (HM.out.trans (if_pos rfl))
    by_cases hlt : l.length < 128
    rotate_left
    · replace HM := hd_ (HM.out.trans (if_neg hlt))
      obtain ⟨v0, hv0, hN0⟩ := hf.2.2.2.2
      obtain ⟨A0, c0, rfl⟩ := Kd.N_slice hN0
      have q : ((128 : Int) ≤ (l.length : Int)) := by omega
      go_enter Try.func28, Try.ntmps28
      go_wp2_with (first
        | (refine gate_ (.load 61 (.tmp 3)) rfl ?_; refine wpList_load_row rfl 61 (.tmp 3) rfl w.heap.size rfl 61 _ (0, 0) _ hX0 Try.underlying61 rfl info61 ?_)
        | (go_at_call 44; refine hr.mono ?_; rintro e w1 ⟨v, rfl, hv, hb1⟩; obtain rfl : v = 0 := (by simpa using hv); have z0 := (blk_cell (blk_below hv0 (below_then hBx hBx.size hb1)) 0).trans rfl; clear hv))
      go_ret2
      exact ⟨_, rfl, by rw [HM.out]; exact hf.below (below_then hBx hBx.size hb1)⟩
    · replace HM := hd_ (HM.out.trans (if_pos hlt))
      obtain ⟨v0, hv0, hN0⟩ := hf.2.2.2.2
      obtain ⟨A0, c0, rfl⟩ := Kd.N_slice hN0
      have hvF : some F ≠ (Value.slice A0 l.length c0).ownBlock := fun e => (hN0.1 F e.symm).2 rfl
      have q : ¬ ((128 : Int) ≤ (l.length : Int)) := by omega
      clear hN0
      go_enter Try.func28, Try.ntmps28
      go_wp2_with (first
        | (refine gate_ (.load 61 (.tmp 3)) rfl ?_; refine wpList_load_row rfl 61 (.tmp 3) rfl w.heap.size rfl 61 _ (0, 0) _ hX0 Try.underlying61 rfl info61 ?_)
        | (go_at_call 44; refine hr.mono ?_; rintro e w1 ⟨v, rfl, hv, hb1⟩; obtain rfl : v = 0 := (by simpa using hv); have hv1 := blk_below hv0 (below_then hBx hBx.size hb1); have z0 := (blk_cell hv1 0).trans rfl; have hX1 := blk_below hX0 hb1; clear hv))
      have hf1 := hf.below (below_then hBx hBx.size hb1)
      have hb2 := below_drew (below_then hBx hBx.size hb1)
      have hf2 := hf.below hb2
      generalize w.heap.size = bx at *
      refine start_ (n := 21) (S := fun W' => W'.heap[F]? = some (.cells #[.slice A0 l.length c0] 87 (0, 0)) ∧ W'.heap[bx]? = some (.cells #[.int .i64 k, .int .i64 p, .int .i64 h, .int .i64 s, .int .i64 m, .bool sl, .string nm, .string wt, .slice A n c] 61 (0, 0))) (ds := [17, 20]) #[false, false, false, false, false, false, false, false, false, false, false, false, false, false, false, false, false, false, false, false, false] (by kernel_rfl) rfl rfl ⟨hv1, hX1⟩ (fun hHeld => ?_)
      refine pure_ (i := 0) (N := (some 20)) (v := ?_) (a' := ?_) #[true, false, false, false, false, false, false, false, false, false, false, false, false, false, false, false, false, false, false, false, false] rfl rfl (by kernel_rfl) (fun _ _ _ h => h) (Or.inl ⟨by rfl, ?_⟩) ?_ ?_
      rotate_left
      · intro w'
        go_simp
        with_reducible rfl
      rotate_left
      · simp only [Act.put, List.setIfInBounds_toArray, List.set_cons_zero, List.set_cons_succ]
        rfl
      refine pure_ (i := 1) (N := (some 21)) (v := ?_) (a' := ?_) #[true, true, false, false, false, false, false, false, false, false, false, false, false, false, false, false, false, false, false, false, false] rfl rfl (by kernel_rfl) (fun _ _ _ h => h) (Or.inl ⟨by rfl, ?_⟩) ?_ ?_
      rotate_left
      · intro w'
        go_simp
        with_reducible rfl
      rotate_left
      · simp only [Act.put, List.setIfInBounds_toArray, List.set_cons_zero, List.set_cons_succ]
        rfl
      refine pure_ (i := 2) (N := (some 22)) (v := ?_) (a' := ?_) #[true, true, true, false, false, false, false, false, false, false, false, false, false, false, false, false, false, false, false, false, false] rfl rfl (by kernel_rfl) (fun _ _ _ h => h) (Or.inl ⟨by rfl, ?_⟩) ?_ ?_
      rotate_left
      · intro w'
        go_simp
        with_reducible rfl
      rotate_left
      · simp only [Act.put, List.setIfInBounds_toArray, List.set_cons_zero, List.set_cons_succ]
        rfl
      refine pure_ (i := 3) (N := (some 23)) (v := ?_) (a' := ?_) #[true, true, true, true, false, false, false, false, false, false, false, false, false, false, false, false, false, false, false, false, false] rfl rfl (by kernel_rfl) (fun _ _ _ h => h) (Or.inl ⟨by rfl, ?_⟩) ?_ ?_
      rotate_left
      · intro w'
        go_simp
        with_reducible rfl
      rotate_left
      · simp only [Act.put, List.setIfInBounds_toArray, List.set_cons_zero, List.set_cons_succ]
        rfl
      refine take_ (i := 4) (N := (some 24)) (v := ?_) (a' := ?_) #[true, true, true, true, true, false, false, false, false, false, false, false, false, false, false, false, false, false, false, false, false] rfl rfl (by kernel_rfl) (fun _ _ _ h => h) (Or.inl ⟨by rfl, ?_⟩) hHeld ?_ ?_
      rotate_left
      · intro w' hSw
        have z0 := blk_cell hSw.1 0
        go_simp
        with_reducible rfl
      rotate_left
      · simp only [Act.put, List.setIfInBounds_toArray, List.set_cons_zero, List.set_cons_succ]
        rfl
      refine pure_ (i := 5) (N := (some 25)) (v := ?_) (a' := ?_) #[true, true, true, true, true, true, false, false, false, false, false, false, false, false, false, false, false, false, false, false, false] rfl rfl (by kernel_rfl) (fun _ _ _ h => h) (Or.inl ⟨by rfl, ?_⟩) ?_ ?_
      rotate_left
      · intro w'
        go_simp
        with_reducible rfl
      rotate_left
      · simp only [Act.put, List.setIfInBounds_toArray, List.set_cons_zero, List.set_cons_succ]
        rfl
      refine take_ (i := 6) (N := (some 26)) (v := ?_) (a' := ?_) #[true, true, true, true, true, true, true, false, false, false, false, false, false, false, false, false, false, false, false, false, false] rfl rfl (by kernel_rfl) (fun _ _ _ h => h) (Or.inl ⟨by rfl, ?_⟩) hHeld ?_ ?_
      rotate_left
      · intro w' hSw
        have z0 := blk_cell hSw.2 0
        go_simp
        with_reducible rfl
      rotate_left
      · simp only [Act.put, List.setIfInBounds_toArray, List.set_cons_zero, List.set_cons_succ]
        rfl
      refine pure_ (i := 7) (N := (some 27)) (v := ?_) (a' := ?_) #[true, true, true, true, true, true, true, true, false, false, false, false, false, false, false, false, false, false, false, false, false] rfl rfl (by kernel_rfl) (fun _ _ _ h => h) (Or.inl ⟨by rfl, ?_⟩) ?_ ?_
      rotate_left
      · intro w'
        go_simp
        with_reducible rfl
      rotate_left
      · simp only [Act.put, List.setIfInBounds_toArray, List.set_cons_zero, List.set_cons_succ]
        rfl
      refine take_ (i := 8) (N := (some 28)) (v := ?_) (a' := ?_) #[true, true, true, true, true, true, true, true, true, false, false, false, false, false, false, false, false, false, false, false, false] rfl rfl (by kernel_rfl) (fun _ _ _ h => h) (Or.inl ⟨by rfl, ?_⟩) hHeld ?_ ?_
      rotate_left
      · intro w' hSw
        have z4 := blk_cell hSw.2 4
        go_simp
        with_reducible rfl
      rotate_left
      · simp only [Act.put, List.setIfInBounds_toArray, List.set_cons_zero, List.set_cons_succ]
        rfl
      refine pure_ (i := 9) (N := (some 29)) (v := ?_) (a' := ?_) #[true, true, true, true, true, true, true, true, true, true, false, false, false, false, false, false, false, false, false, false, false] rfl rfl (by kernel_rfl) (fun _ _ _ h => h) (Or.inl ⟨by rfl, ?_⟩) ?_ ?_
      rotate_left
      · intro w'
        go_simp
        with_reducible rfl
      rotate_left
      · simp only [Act.put, List.setIfInBounds_toArray, List.set_cons_zero, List.set_cons_succ]
        rfl
      refine take_ (i := 10) (N := (some 30)) (v := ?_) (a' := ?_) #[true, true, true, true, true, true, true, true, true, true, true, false, false, false, false, false, false, false, false, false, false] rfl rfl (by kernel_rfl) (fun _ _ _ h => h) (Or.inl ⟨by rfl, ?_⟩) hHeld ?_ ?_
      rotate_left
      · intro w' hSw
        have z5 := blk_cell hSw.2 5
        go_simp
        with_reducible rfl
      rotate_left
      · simp only [Act.put, List.setIfInBounds_toArray, List.set_cons_zero, List.set_cons_succ]
        rfl
      refine pure_ (i := 11) (N := (some 31)) (v := ?_) (a' := ?_) #[true, true, true, true, true, true, true, true, true, true, true, true, false, false, false, false, false, false, false, false, false] rfl rfl (by kernel_rfl) (fun _ _ _ h => h) (Or.inl ⟨by rfl, ?_⟩) ?_ ?_
      rotate_left
      · intro w'
        go_simp
        with_reducible rfl
      rotate_left
      · simp only [Act.put, List.setIfInBounds_toArray, List.set_cons_zero, List.set_cons_succ]
        rfl
      refine take_ (i := 12) (N := (some 32)) (v := ?_) (a' := ?_) #[true, true, true, true, true, true, true, true, true, true, true, true, true, false, false, false, false, false, false, false, false] rfl rfl (by kernel_rfl) (fun _ _ _ h => h) (Or.inl ⟨by rfl, ?_⟩) hHeld ?_ ?_
      rotate_left
      · intro w' hSw
        have z6 := blk_cell hSw.2 6
        go_simp
        with_reducible rfl
      rotate_left
      · simp only [Act.put, List.setIfInBounds_toArray, List.set_cons_zero, List.set_cons_succ]
        rfl
      refine pure_ (i := 13) (N := (some 33)) (v := ?_) (a' := ?_) #[true, true, true, true, true, true, true, true, true, true, true, true, true, true, false, false, false, false, false, false, false] rfl rfl (by kernel_rfl) (fun _ _ _ h => h) (Or.inl ⟨by rfl, ?_⟩) ?_ ?_
      rotate_left
      · intro w'
        go_simp
        with_reducible rfl
      rotate_left
      · simp only [Act.put, List.setIfInBounds_toArray, List.set_cons_zero, List.set_cons_succ]
        rfl
      refine take_ (i := 14) (N := (some 34)) (v := ?_) (a' := ?_) #[true, true, true, true, true, true, true, true, true, true, true, true, true, true, true, false, false, false, false, false, false] rfl rfl (by kernel_rfl) (fun _ _ _ h => h) (Or.inl ⟨by rfl, ?_⟩) hHeld ?_ ?_
      rotate_left
      · intro w' hSw
        have z7 := blk_cell hSw.2 7
        go_simp
        with_reducible rfl
      rotate_left
      · simp only [Act.put, List.setIfInBounds_toArray, List.set_cons_zero, List.set_cons_succ]
        rfl
      refine pure_ (i := 15) (N := (some 35)) (v := ?_) (a' := ?_) #[true, true, true, true, true, true, true, true, true, true, true, true, true, true, true, true, false, false, false, false, false] rfl rfl (by kernel_rfl) (fun _ _ _ h => h) (Or.inl ⟨by rfl, ?_⟩) ?_ ?_
      rotate_left
      · intro w'
        go_simp
        with_reducible rfl
      rotate_left
      · simp only [Act.put, List.setIfInBounds_toArray, List.set_cons_zero, List.set_cons_succ]
        rfl
      refine one_ (i := 16) (N := (some 36)) #[true, true, true, true, true, true, true, true, true, true, true, true, true, true, true, true, true, false, false, false, false] rfl rfl (by kernel_rfl) (by decide) (fun K hK => ?_)
      refine value_ (w1 := w1.drew.alloc (.cells #[.int .i64 k, .int .i64 0, .int .i64 0, .int .i64 0, .int .i64 m, .bool sl, .string nm, .string wt, .slice none 0 0] 61)) (v := .slice (some ⟨w1.heap.size, 0, none⟩) 1 1) (by rfl) rfl ?_ ?_
      · go_simp
      refine hK.out _ _ ⟨alloc_at hHeld.1 _, alloc_at hHeld.2 _⟩ (fun hHeld => ?_)
      clear hK K
      refine norm_ (a' := ?_) ?_ ?_
      rotate_left
      · show Act.put _ (some 36) _ = _
        simp only [Act.put, List.setIfInBounds_toArray, List.set_cons_zero, List.set_cons_succ]
        rfl
      refine last_ (i := 17) (N := (some 37)) #[true, true, true, true, true, true, true, true, true, true, true, true, true, true, true, true, true, true, false, false, false] rfl rfl (by kernel_rfl) (by decide) (fun K hK => ?_)
      have hf3 := hf2
      obtain ⟨hx1, hx2, hx3, hx4, v0', hx5, hx6⟩ := hf2
      have e0 := hx5.symm.trans (show w1.drew.heap[F]? = some (.cells #[.slice A0 l.length c0] 87 (0, 0)) from hv1)
      simp only [Option.some.injEq, Obj.cells.injEq, Array.mk.injEq, List.cons.injEq, and_true] at e0
      subst e0
      refine Kd.N_append_step k61 (w0 := w0) (W := w1.drew) w0.heap.size (by rfl) (.tmp 24) (.tmp 36) 48 61 zeroN 104 rfl Try.underlying48 info61n rfl (by decide) (by decide) (.slice A0 l.length c0) l ⟨k, 0, 0, 0, m, sl, nm, wt, []⟩ _ (fun k => w0.heap.size ≤ k ∧ k ≠ F) (fun _ => False) rfl rfl (k61_mkF w1.drew _ ⟨k, 0, 0, 0, m, sl, nm, wt, []⟩ (A8 := none) (c8 := 0) (Nat.le_refl _) (Kd.F_nil _ _ _)) (fun _ hk => hk.elim) (fun k' hk => ⟨Nat.le_trans hx4.size hk, fun e => by subst e; exact absurd hx2 (by simp at hk ⊢; omega)⟩) hx6 hx4 hx4.size (by omega) ?_
      intro v1 w4 hN4 hB4 hg4 hat4
      have hP := hf3.put (w1 := w4) (show w1.drew.heap[F]? = some (.cells #[.slice A0 l.length c0] 87 (0, 0)) from hv1) hvF hN4 hB4 hg4 (by simp; omega)
      obtain ⟨A1, c1, e1⟩ := Kd.N_slice hN4
      rw [List.length_append, List.length_singleton] at e1
      subst e1
      have y4 := (blk_cell hP.1 0).trans rfl
      have yf := blk_frozen hP.1 0
      refine hK.out _ _ ?_
      clear hK K
      refine norm_ (a' := ?_) ?_ ?_
      rotate_left
      · show Act.put _ (some 37) _ = _
        simp only [Act.put, List.setIfInBounds_toArray, List.set_cons_zero, List.set_cons_succ]
        rfl
      refine pure_ (i := 18) (N := (some 38)) (v := ?_) (a' := ?_) #[true, true, true, true, true, true, true, true, true, true, true, true, true, true, true, true, true, true, true, false, false] rfl rfl (by kernel_rfl) (fun _ _ _ h => h) (Or.inl ⟨by rfl, ?_⟩) ?_ ?_
      rotate_left
      · intro w'
        go_simp
        with_reducible rfl
      rotate_left
      · simp only [Act.put, List.setIfInBounds_toArray, List.set_cons_zero, List.set_cons_succ]
        rfl
      refine pure_ (i := 19) (N := (some 39)) (v := ?_) (a' := ?_) #[true, true, true, true, true, true, true, true, true, true, true, true, true, true, true, true, true, true, true, true, false] rfl rfl (by kernel_rfl) (fun _ _ _ h => h) (Or.inl ⟨by rfl, ?_⟩) ?_ ?_
      rotate_left
      · intro w'
        go_simp
        with_reducible rfl
      rotate_left
      · simp only [Act.put, List.setIfInBounds_toArray, List.set_cons_zero, List.set_cons_succ]
        rfl
      refine last_ (i := 20) (N := none) #[true, true, true, true, true, true, true, true, true, true, true, true, true, true, true, true, true, true, true, true, true] rfl rfl (by kernel_rfl) (by decide) (fun K hK => ?_)
      refine skip_ (w1 := w4.setCell ⟨F, 0, none⟩ (.slice A1 (l.length + 1) c1)) (by rfl) rfl ?_ ?_
      · go_simp
      refine hK.out _ _ ?_
      clear hK K
      refine done_ (by kernel_rfl) ?_
      go_wp2
      go_ret2
      exact ⟨_, rfl, by rw [HM.out]; exact hP.2⟩
end Go.Proofs.Ytmjedjhgomlfiaa
