/- The texts of this seat, joined: part 15 of 25. -/
import Derived.Test.YtgopddjmmoohdaaGreatDoorSl01
import Derived.Test.YtgopddjmmoohdaaGreatDoorSl14
import Derived.Test.YtgopddjmmoohdaaGreatDoorSl10
/- event: New, set, Begin, Prevent, Stop, StopNow, End. -/
set_option linter.unusedSimpArgs false
set_option linter.unusedVariables false
set_option maxRecDepth 100000
set_option maxHeartbeats 3200000
namespace Go.Proofs.YtgopddjmmoohdaaGreatDoor
open Go.RowKit Go.Proofs.YtgopddjmmoohdaaGreatDoorW.PrintWords Go.Proofs.YtgopddjmmoohdaaGreatDoorW.PrintLast Go.Proofs.YtgopddjmmoohdaaGreatDoor.PPlaySilent

/-- The same flags? -/
def eqFl (x y : S34) : Bool := x.f0 == y.f0 && (x.f1 == y.f1 && (x.f2 == y.f2 && (x.f3 == y.f3 && (x.f4 == y.f4 && (x.f5 == y.f5 && (x.f6 == y.f6 && x.f7 == y.f7))))))
/-- An event. -/
structure EvS where
  typ : ByteArray
  tg : Int
  rel : Int
  cur : Int
  ph : Int
  path : List S157
  fl : S34
def evC (e : EvS) (pv : Value) : Array Value := #[.string e.typ, .int .i64 e.tg, .int .i64 e.rel, .int .i64 e.cur, .int .i64 e.ph, pv, .bool e.fl.f0, .bool e.fl.f1, .bool e.fl.f2, .bool e.fl.f3, .bool e.fl.f4, .bool e.fl.f5, .bool e.fl.f6, .bool e.fl.f7]
/-- A new event. -/
def newEv (typ : ByteArray) (rel : Int) (bu ca co : Bool) : EvS := ⟨typ, 0, rel, 0, 0, [], ⟨bu, ca, co, false, false, false, false, false⟩⟩
theorem enew_any (typ : ByteArray) (rel : Int) (bu ca co : Bool) (w : World) (h1 : rightW typ.data.toList = true) (h2 : 0 ≤ rel) :
    Calls Tryz.prog 89 #[.string typ, .int .i64 rel, .bool bu, .bool ca, .bool co] w fun e w' => ∃ eb, e = .returned (.tuple #[.pointer (some ⟨eb, 0, none⟩), .int .i64 0]) ∧ w'.heap[eb]? = some (.cells (evC (newEv typ rel bu ca co) (.slice none 0 0)) 46 (0, 0)) ∧ w.heap.size ≤ eb ∧ Below w.heap.size w w' := by
  have hr := right_any typ w
  rw [h1] at hr
  clear h1
  go_enter Tryz.func89, Tryz.ntmps89
  go_wp2_with (go_at_call 38; (with_reducible refine hr.mono ?_); rintro e w1 ⟨rfl, hB1⟩)
  go_ret2
  exact ⟨w1.heap.size, rfl, alloc_new' rfl, hB1.size, below_alloc hB1 _⟩
theorem prev_clo (eb : Nat) (e : EvS) (pv : Value) (W : World) (h : W.heap[eb]? = some (.cells (evC e pv) 46 (0, 0))) :
    Calls Tryz.prog 137 #[.pointer (some ⟨eb, 6, none⟩)] W fun r w' => r = .returned (.tuple #[]) ∧ w' = (W.setCell ⟨eb, 9, none⟩ (.bool true)) := by
  have c3 : W.cell? ⟨eb, 9, none⟩ = some (.bool e.fl.f3) := blk_cell h 9
  have f3 := blk_frozen h 9
  clear h
  go_enter Tryz.func137, Tryz.ntmps137
  go_wp2
  go_end0
  exact ⟨rfl, rfl⟩
theorem prev_set (eb : Nat) (e : EvS) (pv : Value) (w : World) (h : w.heap[eb]? = some (.cells (evC e pv) 46 (0, 0))) :
    Calls Tryz.prog 93 #[.pointer (some ⟨eb, 0, none⟩), .func (.func 137) #[] #[]] w fun r w' => r = .returned (.bool (!eqFl ⟨e.fl.f0, e.fl.f1, e.fl.f2, true, e.fl.f4, e.fl.f5, e.fl.f6, e.fl.f7⟩ e.fl)) ∧ w'.heap[eb]? = some (.cells (evC { e with fl := { e.fl with f3 := true } } pv) 46 (0, 0)) ∧ Ste (fun k => k = eb) w w' := by
  have hlt := blk_lt h
  have d0 : w.cell? ⟨eb, 6, none⟩ = some (.bool e.fl.f0) := blk_cell h 6
  have d1 : w.cell? ⟨eb, 7, none⟩ = some (.bool e.fl.f1) := blk_cell h 7
  have d2 : w.cell? ⟨eb, 8, none⟩ = some (.bool e.fl.f2) := blk_cell h 8
  have d3 : w.cell? ⟨eb, 9, none⟩ = some (.bool e.fl.f3) := blk_cell h 9
  have d4 : w.cell? ⟨eb, 10, none⟩ = some (.bool e.fl.f4) := blk_cell h 10
  have d5 : w.cell? ⟨eb, 11, none⟩ = some (.bool e.fl.f5) := blk_cell h 11
  have d6 : w.cell? ⟨eb, 12, none⟩ = some (.bool e.fl.f6) := blk_cell h 12
  have d7 : w.cell? ⟨eb, 13, none⟩ = some (.bool e.fl.f7) := blk_cell h 13
  have hcl := fun W hW => prev_clo eb e pv W hW
  have hA := alloc_at h (.cells #[.bool e.fl.f0, .bool e.fl.f1, .bool e.fl.f2, .bool e.fl.f3, .bool e.fl.f4, .bool e.fl.f5, .bool e.fl.f6, .bool e.fl.f7] 34)
  have hE3 : ((w.setCell ⟨eb, 9, none⟩ (.bool true)).alloc (.cells #[.bool e.fl.f0, .bool e.fl.f1, .bool e.fl.f2, .bool e.fl.f3, .bool e.fl.f4, .bool e.fl.f5, .bool e.fl.f6, .bool e.fl.f7] 34)).heap[eb]? = some (.cells (evC { e with fl := { e.fl with f3 := true } } pv) 46 (0, 0)) := alloc_at (blk_put (h) 9 (.bool true) rfl) _
  have hX3 : ((w.setCell ⟨eb, 9, none⟩ (.bool true)).alloc (.cells #[.bool e.fl.f0, .bool e.fl.f1, .bool e.fl.f2, .bool e.fl.f3, .bool e.fl.f4, .bool e.fl.f5, .bool e.fl.f6, .bool e.fl.f7] 34)).heap[w.heap.size]? = some (.cells #[.bool e.fl.f0, .bool e.fl.f1, .bool e.fl.f2, .bool e.fl.f3, .bool e.fl.f4, .bool e.fl.f5, .bool e.fl.f6, .bool e.fl.f7] 34 (0, 0)) := alloc_new' (by simp)
  have hS3 : Ste (fun k => k = eb) w ((w.setCell ⟨eb, 9, none⟩ (.bool true)).alloc (.cells #[.bool e.fl.f0, .bool e.fl.f1, .bool e.fl.f2, .bool e.fl.f3, .bool e.fl.f4, .bool e.fl.f5, .bool e.fl.f6, .bool e.fl.f7] 34)) := ((Ste.refl (fun k => k = eb) w).trans (setCell_ste _ eb 9 (.bool true)) (fun k hk => .inl hk)).below (below_alloc (Below.refl _ _) _)
  go_enter Tryz.func93, Tryz.ntmps93
  go_wp2_with (go_at_call 137; (with_reducible refine (hcl _ hA).mono ?_); rintro r w1 ⟨rfl, rfl⟩)
  refine start_ (n := 7) (S := (fun W_ => W_.heap[eb]? = some (.cells (evC { e with fl := { e.fl with f3 := true } } pv) 46 (0, 0)) ∧ W_.heap[w.heap.size]? = some (.cells #[.bool e.fl.f0, .bool e.fl.f1, .bool e.fl.f2, .bool e.fl.f3, .bool e.fl.f4, .bool e.fl.f5, .bool e.fl.f6, .bool e.fl.f7] 34 (0, 0)))) (ds := []) (bm 7 0) (by kernel_rfl) rfl (by kernel_rfl) ⟨hE3, hX3⟩ (fun hHeld => ?_)
  refine pu_ 0 (some 17) (bm 7 1) ?_
  refine pu_ 1 (some 18) (bm 7 3) ?_
  refine pu_ 2 (some 19) (bm 7 7) ?_
  refine tb_ 3 (some 20) (bm 7 15) hHeld ?_ (hy := by intro w' hSw; have z0 : w'.cell? ⟨eb, 6, none⟩ = some (.bool e.fl.f0) := blk_cell hSw.1 6; have z1 : w'.cell? ⟨eb, 7, none⟩ = some (.bool e.fl.f1) := blk_cell hSw.1 7; have z2 : w'.cell? ⟨eb, 8, none⟩ = some (.bool e.fl.f2) := blk_cell hSw.1 8; have z3 : w'.cell? ⟨eb, 9, none⟩ = some (.bool true) := blk_cell hSw.1 9; have z4 : w'.cell? ⟨eb, 10, none⟩ = some (.bool e.fl.f4) := blk_cell hSw.1 10; have z5 : w'.cell? ⟨eb, 11, none⟩ = some (.bool e.fl.f5) := blk_cell hSw.1 11; have z6 : w'.cell? ⟨eb, 12, none⟩ = some (.bool e.fl.f6) := blk_cell hSw.1 12; have z7 : w'.cell? ⟨eb, 13, none⟩ = some (.bool e.fl.f7) := blk_cell hSw.1 13; go_simp; with_reducible rfl)
  refine tb_ 4 (some 21) (bm 7 31) hHeld ?_ (hy := by intro w' hSw; have z0 : w'.cell? ⟨w.heap.size, 0, none⟩ = some (.bool e.fl.f0) := blk_cell hSw.2 0; have z1 : w'.cell? ⟨w.heap.size, 1, none⟩ = some (.bool e.fl.f1) := blk_cell hSw.2 1; have z2 : w'.cell? ⟨w.heap.size, 2, none⟩ = some (.bool e.fl.f2) := blk_cell hSw.2 2; have z3 : w'.cell? ⟨w.heap.size, 3, none⟩ = some (.bool e.fl.f3) := blk_cell hSw.2 3; have z4 : w'.cell? ⟨w.heap.size, 4, none⟩ = some (.bool e.fl.f4) := blk_cell hSw.2 4; have z5 : w'.cell? ⟨w.heap.size, 5, none⟩ = some (.bool e.fl.f5) := blk_cell hSw.2 5; have z6 : w'.cell? ⟨w.heap.size, 6, none⟩ = some (.bool e.fl.f6) := blk_cell hSw.2 6; have z7 : w'.cell? ⟨w.heap.size, 7, none⟩ = some (.bool e.fl.f7) := blk_cell hSw.2 7; go_simp; with_reducible rfl)
  refine pure_ (i := 5) (N := (some 22)) (v := ?_) (a' := ?_) (bm 7 63) rfl rfl (by kernel_rfl) (fun _ _ _ h => h) (Or.inl ⟨by rfl, ?_⟩) ?_ ?_
  rotate_left
  · intro w'
    go_simp
    refine Eq.trans (b := Result.ok (Next.value (Value.bool (!eqFl ⟨e.fl.f0, e.fl.f1, e.fl.f2, true, e.fl.f4, e.fl.f5, e.fl.f6, e.fl.f7⟩ e.fl))) w') ?_ ?_
    rotate_left
    · with_reducible rfl
    simp only [eqFl, beq_self_eq_true, Bool.true_and, Bool.and_true]
    (repeat' split) <;> simp_all
  rotate_left
  · simp only [Act.put, List.setIfInBounds_toArray, List.set_cons_zero, List.set_cons_succ]
    rfl
  refine pu_ 6 (some 4) (bm 7 127) ?_
  refine done_ (by kernel_rfl) ?_
  go_wp2
  go_ret
  exact ⟨rfl, hE3, hS3.below (below_drew (Below.refl _ _))⟩
theorem stop_clo (eb : Nat) (e : EvS) (pv : Value) (W : World) (h : W.heap[eb]? = some (.cells (evC e pv) 46 (0, 0))) :
    Calls Tryz.prog 138 #[.pointer (some ⟨eb, 6, none⟩)] W fun r w' => r = .returned (.tuple #[]) ∧ w' = (W.setCell ⟨eb, 10, none⟩ (.bool true)) := by
  have c4 : W.cell? ⟨eb, 10, none⟩ = some (.bool e.fl.f4) := blk_cell h 10
  have f4 := blk_frozen h 10
  clear h
  go_enter Tryz.func138, Tryz.ntmps138
  go_wp2
  go_end0
  exact ⟨rfl, rfl⟩
theorem stop_set (eb : Nat) (e : EvS) (pv : Value) (w : World) (h : w.heap[eb]? = some (.cells (evC e pv) 46 (0, 0))) :
    Calls Tryz.prog 93 #[.pointer (some ⟨eb, 0, none⟩), .func (.func 138) #[] #[]] w fun r w' => r = .returned (.bool (!eqFl ⟨e.fl.f0, e.fl.f1, e.fl.f2, e.fl.f3, true, e.fl.f5, e.fl.f6, e.fl.f7⟩ e.fl)) ∧ w'.heap[eb]? = some (.cells (evC { e with fl := { e.fl with f4 := true } } pv) 46 (0, 0)) ∧ Ste (fun k => k = eb) w w' := by
  have hlt := blk_lt h
  have d0 : w.cell? ⟨eb, 6, none⟩ = some (.bool e.fl.f0) := blk_cell h 6
  have d1 : w.cell? ⟨eb, 7, none⟩ = some (.bool e.fl.f1) := blk_cell h 7
  have d2 : w.cell? ⟨eb, 8, none⟩ = some (.bool e.fl.f2) := blk_cell h 8
  have d3 : w.cell? ⟨eb, 9, none⟩ = some (.bool e.fl.f3) := blk_cell h 9
  have d4 : w.cell? ⟨eb, 10, none⟩ = some (.bool e.fl.f4) := blk_cell h 10
  have d5 : w.cell? ⟨eb, 11, none⟩ = some (.bool e.fl.f5) := blk_cell h 11
  have d6 : w.cell? ⟨eb, 12, none⟩ = some (.bool e.fl.f6) := blk_cell h 12
  have d7 : w.cell? ⟨eb, 13, none⟩ = some (.bool e.fl.f7) := blk_cell h 13
  have hcl := fun W hW => stop_clo eb e pv W hW
  have hA := alloc_at h (.cells #[.bool e.fl.f0, .bool e.fl.f1, .bool e.fl.f2, .bool e.fl.f3, .bool e.fl.f4, .bool e.fl.f5, .bool e.fl.f6, .bool e.fl.f7] 34)
  have hE3 : ((w.setCell ⟨eb, 10, none⟩ (.bool true)).alloc (.cells #[.bool e.fl.f0, .bool e.fl.f1, .bool e.fl.f2, .bool e.fl.f3, .bool e.fl.f4, .bool e.fl.f5, .bool e.fl.f6, .bool e.fl.f7] 34)).heap[eb]? = some (.cells (evC { e with fl := { e.fl with f4 := true } } pv) 46 (0, 0)) := alloc_at (blk_put (h) 10 (.bool true) rfl) _
  have hX3 : ((w.setCell ⟨eb, 10, none⟩ (.bool true)).alloc (.cells #[.bool e.fl.f0, .bool e.fl.f1, .bool e.fl.f2, .bool e.fl.f3, .bool e.fl.f4, .bool e.fl.f5, .bool e.fl.f6, .bool e.fl.f7] 34)).heap[w.heap.size]? = some (.cells #[.bool e.fl.f0, .bool e.fl.f1, .bool e.fl.f2, .bool e.fl.f3, .bool e.fl.f4, .bool e.fl.f5, .bool e.fl.f6, .bool e.fl.f7] 34 (0, 0)) := alloc_new' (by simp)
  have hS3 : Ste (fun k => k = eb) w ((w.setCell ⟨eb, 10, none⟩ (.bool true)).alloc (.cells #[.bool e.fl.f0, .bool e.fl.f1, .bool e.fl.f2, .bool e.fl.f3, .bool e.fl.f4, .bool e.fl.f5, .bool e.fl.f6, .bool e.fl.f7] 34)) := ((Ste.refl (fun k => k = eb) w).trans (setCell_ste _ eb 10 (.bool true)) (fun k hk => .inl hk)).below (below_alloc (Below.refl _ _) _)
  go_enter Tryz.func93, Tryz.ntmps93
  go_wp2_with (go_at_call 138; (with_reducible refine (hcl _ hA).mono ?_); rintro r w1 ⟨rfl, rfl⟩)
  refine start_ (n := 7) (S := (fun W_ => W_.heap[eb]? = some (.cells (evC { e with fl := { e.fl with f4 := true } } pv) 46 (0, 0)) ∧ W_.heap[w.heap.size]? = some (.cells #[.bool e.fl.f0, .bool e.fl.f1, .bool e.fl.f2, .bool e.fl.f3, .bool e.fl.f4, .bool e.fl.f5, .bool e.fl.f6, .bool e.fl.f7] 34 (0, 0)))) (ds := []) (bm 7 0) (by kernel_rfl) rfl (by kernel_rfl) ⟨hE3, hX3⟩ (fun hHeld => ?_)
  refine pu_ 0 (some 17) (bm 7 1) ?_
  refine pu_ 1 (some 18) (bm 7 3) ?_
  refine pu_ 2 (some 19) (bm 7 7) ?_
  refine tb_ 3 (some 20) (bm 7 15) hHeld ?_ (hy := by intro w' hSw; have z0 : w'.cell? ⟨eb, 6, none⟩ = some (.bool e.fl.f0) := blk_cell hSw.1 6; have z1 : w'.cell? ⟨eb, 7, none⟩ = some (.bool e.fl.f1) := blk_cell hSw.1 7; have z2 : w'.cell? ⟨eb, 8, none⟩ = some (.bool e.fl.f2) := blk_cell hSw.1 8; have z3 : w'.cell? ⟨eb, 9, none⟩ = some (.bool e.fl.f3) := blk_cell hSw.1 9; have z4 : w'.cell? ⟨eb, 10, none⟩ = some (.bool true) := blk_cell hSw.1 10; have z5 : w'.cell? ⟨eb, 11, none⟩ = some (.bool e.fl.f5) := blk_cell hSw.1 11; have z6 : w'.cell? ⟨eb, 12, none⟩ = some (.bool e.fl.f6) := blk_cell hSw.1 12; have z7 : w'.cell? ⟨eb, 13, none⟩ = some (.bool e.fl.f7) := blk_cell hSw.1 13; go_simp; with_reducible rfl)
  refine tb_ 4 (some 21) (bm 7 31) hHeld ?_ (hy := by intro w' hSw; have z0 : w'.cell? ⟨w.heap.size, 0, none⟩ = some (.bool e.fl.f0) := blk_cell hSw.2 0; have z1 : w'.cell? ⟨w.heap.size, 1, none⟩ = some (.bool e.fl.f1) := blk_cell hSw.2 1; have z2 : w'.cell? ⟨w.heap.size, 2, none⟩ = some (.bool e.fl.f2) := blk_cell hSw.2 2; have z3 : w'.cell? ⟨w.heap.size, 3, none⟩ = some (.bool e.fl.f3) := blk_cell hSw.2 3; have z4 : w'.cell? ⟨w.heap.size, 4, none⟩ = some (.bool e.fl.f4) := blk_cell hSw.2 4; have z5 : w'.cell? ⟨w.heap.size, 5, none⟩ = some (.bool e.fl.f5) := blk_cell hSw.2 5; have z6 : w'.cell? ⟨w.heap.size, 6, none⟩ = some (.bool e.fl.f6) := blk_cell hSw.2 6; have z7 : w'.cell? ⟨w.heap.size, 7, none⟩ = some (.bool e.fl.f7) := blk_cell hSw.2 7; go_simp; with_reducible rfl)
  refine pure_ (i := 5) (N := (some 22)) (v := ?_) (a' := ?_) (bm 7 63) rfl rfl (by kernel_rfl) (fun _ _ _ h => h) (Or.inl ⟨by rfl, ?_⟩) ?_ ?_
  rotate_left
  · intro w'
    go_simp
    refine Eq.trans (b := Result.ok (Next.value (Value.bool (!eqFl ⟨e.fl.f0, e.fl.f1, e.fl.f2, e.fl.f3, true, e.fl.f5, e.fl.f6, e.fl.f7⟩ e.fl))) w') ?_ ?_
    rotate_left
    · with_reducible rfl
    simp only [eqFl, beq_self_eq_true, Bool.true_and, Bool.and_true]
    (repeat' split) <;> simp_all
  rotate_left
  · simp only [Act.put, List.setIfInBounds_toArray, List.set_cons_zero, List.set_cons_succ]
    rfl
  refine pu_ 6 (some 4) (bm 7 127) ?_
  refine done_ (by kernel_rfl) ?_
  go_wp2
  go_ret
  exact ⟨rfl, hE3, hS3.below (below_drew (Below.refl _ _))⟩
theorem stopn_clo (eb : Nat) (e : EvS) (pv : Value) (W : World) (h : W.heap[eb]? = some (.cells (evC e pv) 46 (0, 0))) :
    Calls Tryz.prog 139 #[.pointer (some ⟨eb, 6, none⟩)] W fun r w' => r = .returned (.tuple #[]) ∧ w' = ((W.setCell ⟨eb, 10, none⟩ (.bool true)).setCell ⟨eb, 11, none⟩ (.bool true)) := by
  have c4 : W.cell? ⟨eb, 10, none⟩ = some (.bool e.fl.f4) := blk_cell h 10
  have f4 := blk_frozen h 10
  have c5 : W.cell? ⟨eb, 11, none⟩ = some (.bool e.fl.f5) := blk_cell h 11
  have f5 := blk_frozen h 11
  clear h
  go_enter Tryz.func139, Tryz.ntmps139
  go_wp2
  go_end0
  exact ⟨rfl, rfl⟩
theorem stopn_set (eb : Nat) (e : EvS) (pv : Value) (w : World) (h : w.heap[eb]? = some (.cells (evC e pv) 46 (0, 0))) :
    Calls Tryz.prog 93 #[.pointer (some ⟨eb, 0, none⟩), .func (.func 139) #[] #[]] w fun r w' => r = .returned (.bool (!eqFl ⟨e.fl.f0, e.fl.f1, e.fl.f2, e.fl.f3, true, true, e.fl.f6, e.fl.f7⟩ e.fl)) ∧ w'.heap[eb]? = some (.cells (evC { e with fl := { e.fl with f4 := true, f5 := true } } pv) 46 (0, 0)) ∧ Ste (fun k => k = eb) w w' := by
  have hlt := blk_lt h
  have d0 : w.cell? ⟨eb, 6, none⟩ = some (.bool e.fl.f0) := blk_cell h 6
  have d1 : w.cell? ⟨eb, 7, none⟩ = some (.bool e.fl.f1) := blk_cell h 7
  have d2 : w.cell? ⟨eb, 8, none⟩ = some (.bool e.fl.f2) := blk_cell h 8
  have d3 : w.cell? ⟨eb, 9, none⟩ = some (.bool e.fl.f3) := blk_cell h 9
  have d4 : w.cell? ⟨eb, 10, none⟩ = some (.bool e.fl.f4) := blk_cell h 10
  have d5 : w.cell? ⟨eb, 11, none⟩ = some (.bool e.fl.f5) := blk_cell h 11
  have d6 : w.cell? ⟨eb, 12, none⟩ = some (.bool e.fl.f6) := blk_cell h 12
  have d7 : w.cell? ⟨eb, 13, none⟩ = some (.bool e.fl.f7) := blk_cell h 13
  have hcl := fun W hW => stopn_clo eb e pv W hW
  have hA := alloc_at h (.cells #[.bool e.fl.f0, .bool e.fl.f1, .bool e.fl.f2, .bool e.fl.f3, .bool e.fl.f4, .bool e.fl.f5, .bool e.fl.f6, .bool e.fl.f7] 34)
  have hE3 : (((w.setCell ⟨eb, 10, none⟩ (.bool true)).setCell ⟨eb, 11, none⟩ (.bool true)).alloc (.cells #[.bool e.fl.f0, .bool e.fl.f1, .bool e.fl.f2, .bool e.fl.f3, .bool e.fl.f4, .bool e.fl.f5, .bool e.fl.f6, .bool e.fl.f7] 34)).heap[eb]? = some (.cells (evC { e with fl := { e.fl with f4 := true, f5 := true } } pv) 46 (0, 0)) := alloc_at (blk_put (blk_put (h) 10 (.bool true) rfl) 11 (.bool true) rfl) _
  have hX3 : (((w.setCell ⟨eb, 10, none⟩ (.bool true)).setCell ⟨eb, 11, none⟩ (.bool true)).alloc (.cells #[.bool e.fl.f0, .bool e.fl.f1, .bool e.fl.f2, .bool e.fl.f3, .bool e.fl.f4, .bool e.fl.f5, .bool e.fl.f6, .bool e.fl.f7] 34)).heap[w.heap.size]? = some (.cells #[.bool e.fl.f0, .bool e.fl.f1, .bool e.fl.f2, .bool e.fl.f3, .bool e.fl.f4, .bool e.fl.f5, .bool e.fl.f6, .bool e.fl.f7] 34 (0, 0)) := alloc_new' (by simp)
  have hS3 : Ste (fun k => k = eb) w (((w.setCell ⟨eb, 10, none⟩ (.bool true)).setCell ⟨eb, 11, none⟩ (.bool true)).alloc (.cells #[.bool e.fl.f0, .bool e.fl.f1, .bool e.fl.f2, .bool e.fl.f3, .bool e.fl.f4, .bool e.fl.f5, .bool e.fl.f6, .bool e.fl.f7] 34)) := (((Ste.refl (fun k => k = eb) w).trans (setCell_ste _ eb 10 (.bool true)) (fun k hk => .inl hk)).trans (setCell_ste _ eb 11 (.bool true)) (fun k hk => .inl hk)).below (below_alloc (Below.refl _ _) _)
  go_enter Tryz.func93, Tryz.ntmps93
  go_wp2_with (go_at_call 139; (with_reducible refine (hcl _ hA).mono ?_); rintro r w1 ⟨rfl, rfl⟩)
  refine start_ (n := 7) (S := (fun W_ => W_.heap[eb]? = some (.cells (evC { e with fl := { e.fl with f4 := true, f5 := true } } pv) 46 (0, 0)) ∧ W_.heap[w.heap.size]? = some (.cells #[.bool e.fl.f0, .bool e.fl.f1, .bool e.fl.f2, .bool e.fl.f3, .bool e.fl.f4, .bool e.fl.f5, .bool e.fl.f6, .bool e.fl.f7] 34 (0, 0)))) (ds := []) (bm 7 0) (by kernel_rfl) rfl (by kernel_rfl) ⟨hE3, hX3⟩ (fun hHeld => ?_)
  refine pu_ 0 (some 17) (bm 7 1) ?_
  refine pu_ 1 (some 18) (bm 7 3) ?_
  refine pu_ 2 (some 19) (bm 7 7) ?_
  refine tb_ 3 (some 20) (bm 7 15) hHeld ?_ (hy := by intro w' hSw; have z0 : w'.cell? ⟨eb, 6, none⟩ = some (.bool e.fl.f0) := blk_cell hSw.1 6; have z1 : w'.cell? ⟨eb, 7, none⟩ = some (.bool e.fl.f1) := blk_cell hSw.1 7; have z2 : w'.cell? ⟨eb, 8, none⟩ = some (.bool e.fl.f2) := blk_cell hSw.1 8; have z3 : w'.cell? ⟨eb, 9, none⟩ = some (.bool e.fl.f3) := blk_cell hSw.1 9; have z4 : w'.cell? ⟨eb, 10, none⟩ = some (.bool true) := blk_cell hSw.1 10; have z5 : w'.cell? ⟨eb, 11, none⟩ = some (.bool true) := blk_cell hSw.1 11; have z6 : w'.cell? ⟨eb, 12, none⟩ = some (.bool e.fl.f6) := blk_cell hSw.1 12; have z7 : w'.cell? ⟨eb, 13, none⟩ = some (.bool e.fl.f7) := blk_cell hSw.1 13; go_simp; with_reducible rfl)
  refine tb_ 4 (some 21) (bm 7 31) hHeld ?_ (hy := by intro w' hSw; have z0 : w'.cell? ⟨w.heap.size, 0, none⟩ = some (.bool e.fl.f0) := blk_cell hSw.2 0; have z1 : w'.cell? ⟨w.heap.size, 1, none⟩ = some (.bool e.fl.f1) := blk_cell hSw.2 1; have z2 : w'.cell? ⟨w.heap.size, 2, none⟩ = some (.bool e.fl.f2) := blk_cell hSw.2 2; have z3 : w'.cell? ⟨w.heap.size, 3, none⟩ = some (.bool e.fl.f3) := blk_cell hSw.2 3; have z4 : w'.cell? ⟨w.heap.size, 4, none⟩ = some (.bool e.fl.f4) := blk_cell hSw.2 4; have z5 : w'.cell? ⟨w.heap.size, 5, none⟩ = some (.bool e.fl.f5) := blk_cell hSw.2 5; have z6 : w'.cell? ⟨w.heap.size, 6, none⟩ = some (.bool e.fl.f6) := blk_cell hSw.2 6; have z7 : w'.cell? ⟨w.heap.size, 7, none⟩ = some (.bool e.fl.f7) := blk_cell hSw.2 7; go_simp; with_reducible rfl)
  refine pure_ (i := 5) (N := (some 22)) (v := ?_) (a' := ?_) (bm 7 63) rfl rfl (by kernel_rfl) (fun _ _ _ h => h) (Or.inl ⟨by rfl, ?_⟩) ?_ ?_
  rotate_left
  · intro w'
    go_simp
    refine Eq.trans (b := Result.ok (Next.value (Value.bool (!eqFl ⟨e.fl.f0, e.fl.f1, e.fl.f2, e.fl.f3, true, true, e.fl.f6, e.fl.f7⟩ e.fl))) w') ?_ ?_
    rotate_left
    · with_reducible rfl
    simp only [eqFl, beq_self_eq_true, Bool.true_and, Bool.and_true]
    (repeat' split) <;> simp_all
  rotate_left
  · simp only [Act.put, List.setIfInBounds_toArray, List.set_cons_zero, List.set_cons_succ]
    rfl
  refine pu_ 6 (some 4) (bm 7 127) ?_
  refine done_ (by kernel_rfl) ?_
  go_wp2
  go_ret
  exact ⟨rfl, hE3, hS3.below (below_drew (Below.refl _ _))⟩
/-- Prevent. -/
def prevF (e : EvS) : EvS := if e.fl.f1 = true then if e.fl.f6 = true then e else { e with fl := { e.fl with f3 := true } } else e
def prevA (e : EvS) : Bool := e.fl.f1 && !e.fl.f6
theorem prevent_any (eb : Nat) (e : EvS) (pv : Value) (w : World) (h : w.heap[eb]? = some (.cells (evC e pv) 46 (0, 0))) :
    Calls Tryz.prog 90 #[.pointer (some ⟨eb, 0, none⟩)] w fun r w' => r = .returned (.bool (prevA e)) ∧ w'.heap[eb]? = some (.cells (evC (prevF e) pv) 46 (0, 0)) ∧ Ste (fun k => k = eb) w w' := by
  have hs := prev_set eb e pv w h
  have z1 : w.cell? ⟨eb, 7, none⟩ = some (.bool e.fl.f1) := blk_cell h 7
  have z6 : w.cell? ⟨eb, 12, none⟩ = some (.bool e.fl.f6) := blk_cell h 12
  cases h1 : e.fl.f1 with
  | false =>
    have HF : Hd (prevF e = e ∧ prevA e = false) := ⟨by unfold prevF prevA; rw [h1]; exact ⟨if_neg (by simp), rfl⟩⟩
    rw [h1] at z1
    rw [HF.out.1, HF.out.2]
    clear h1 hs
    go_enter Tryz.func90, Tryz.ntmps90
    go_wp2
    go_ret
    exact ⟨rfl, h, Ste.refl _ _⟩
  | true =>
    rw [h1] at z1
    cases h6 : e.fl.f6 with
    | true =>
      have HF : Hd (prevF e = e ∧ prevA e = false) := ⟨by unfold prevF prevA; rw [h1, h6]; exact ⟨(if_pos rfl).trans (if_pos rfl), rfl⟩⟩
      rw [h6] at z6
      rw [HF.out.1, HF.out.2]
      clear h1 h6 hs
      go_enter Tryz.func90, Tryz.ntmps90
      go_wp2
      go_ret
      exact ⟨rfl, h, Ste.refl _ _⟩
    | false =>
      have HF : Hd (prevF e = { e with fl := { e.fl with f3 := true } } ∧ prevA e = true) := ⟨by unfold prevF prevA; rw [if_pos h1, if_neg (by rw [h6]; simp), h1, h6]; exact ⟨rfl, rfl⟩⟩
      rw [h6] at z6
      clear h1 h6 h
      go_enter Tryz.func90, Tryz.ntmps90
      go_wp2_with (go_at_call 93; (with_reducible refine hs.mono ?_); rintro r w1 ⟨rfl, h1, h2⟩)
      go_ret
      exact ⟨by rw [HF.out.2]; rfl, by rw [HF.out.1]; exact h1, h2⟩
theorem stop_any (eb : Nat) (e : EvS) (pv : Value) (w : World) (h : w.heap[eb]? = some (.cells (evC e pv) 46 (0, 0))) :
    Calls Tryz.prog 91 #[.pointer (some ⟨eb, 0, none⟩)] w fun r w' => r = .returned (.tuple #[]) ∧ w'.heap[eb]? = some (.cells (evC { e with fl := { e.fl with f4 := true } } pv) 46 (0, 0)) ∧ Ste (fun k => k = eb) w w' := by
  have hs := stop_set eb e pv w h
  clear h
  go_enter Tryz.func91, Tryz.ntmps91
  go_wp2_with (go_at_call 93; (with_reducible refine hs.mono ?_); rintro r w1 ⟨rfl, h1, h2⟩)
  go_end0
  exact ⟨rfl, h1, h2⟩
theorem stopn_any (eb : Nat) (e : EvS) (pv : Value) (w : World) (h : w.heap[eb]? = some (.cells (evC e pv) 46 (0, 0))) :
    Calls Tryz.prog 92 #[.pointer (some ⟨eb, 0, none⟩)] w fun r w' => r = .returned (.tuple #[]) ∧ w'.heap[eb]? = some (.cells (evC { e with fl := { e.fl with f4 := true, f5 := true } } pv) 46 (0, 0)) ∧ Ste (fun k => k = eb) w w' := by
  have hs := stopn_set eb e pv w h
  clear h
  go_enter Tryz.func92, Tryz.ntmps92
  go_wp2_with (go_at_call 93; (with_reducible refine hs.mono ?_); rintro r w1 ⟨rfl, h1, h2⟩)
  go_end0
  exact ⟨rfl, h1, h2⟩
end Go.Proofs.YtgopddjmmoohdaaGreatDoor

/- op: codes, names, numbers, words; Right. -/
set_option linter.unusedSimpArgs false
set_option linter.unusedVariables false
set_option maxRecDepth 100000
set_option maxHeartbeats 3200000
namespace Go.Proofs.YtgopddjmmoohdaaGreatDoor
open Go.RowKit Go.Proofs.YtgopddjmmoohdaaGreatDoorW.PrintWords Go.Proofs.YtgopddjmmoohdaaGreatDoorW.PrintLast Go.Proofs.YtgopddjmmoohdaaGreatDoor.PPlaySilent

def opV (x : S39) : Value := .agg #[.int .i64 x.f0, .int .i64 x.f1, .int .i64 x.f2, .int .i64 x.f3, .int .i64 x.f4, .string x.f5]
theorem info39s : (Tryz.prog.info? 39).map (·.size) = some 6 := by kernel_rfl
theorem toList_inj {a b : ByteArray} (h : a.toList = b.toList) : a = b := by
  rw [ByteArray.toList_eq, ByteArray.toList_eq] at h
  exact ByteArray.ext (Array.toList_inj.1 h)
def ofL (l : List UInt8) : ByteArray := ⟨l.toArray⟩
theorem var_below {w w' : World} {n : String} {v : Array Value} (hb : Below w.heap.size w w') (h : w.var? Tryz.prog n = some v) : w'.var? Tryz.prog n = some v := by
  unfold World.var? at h ⊢
  obtain ⟨g, hg, h⟩ := Option.bind_eq_some_iff.1 h
  rw [hg, Option.bind_some]
  cases ho : w.heap[g]? with
  | none => rw [ho] at h; cases h
  | some o => rw [hb.block g (Array.getElem?_eq_some_iff.1 ho).1, ho]; rw [ho] at h; exact h
def opNameL : List (List UInt8) := [[], [109, 97, 107, 101], [119, 97, 110, 116], [110, 97, 109, 101], [97, 112, 112, 101, 110, 100], [98, 101, 102, 111, 114, 101], [114, 101, 109, 111, 118, 101], [97, 116, 116, 97, 99, 104], [115, 105, 103, 110, 97, 108], [97, 98, 111, 114, 116], [108, 105, 115, 116, 101, 110], [117, 110, 108, 105, 115, 116, 101, 110], [101, 118, 101, 110, 116], [115, 101, 110, 100], [112, 114, 101, 118, 101, 110, 116], [115, 116, 111, 112], [115, 116, 111, 112, 110, 111, 119], [99, 108, 101, 97, 114]]
def opNames : List ByteArray := opNameL.map ofL
def opNumbers : List Int := [0, 2, 1, 1, 2, 3, 2, 2, 2, 1, 4, 3, 2, 2, 1, 1, 1, 1]
def opWorded : List Bool := [false, true, true, true, false, false, false, false, false, false, true, true, true, false, false, false, false, false]
theorem opNames_length : opNames.length = 18 := rfl

theorem gNames : Tryz.prog.globalNamed "towncrier/op.names" = some 0 := by kernel_rfl
theorem gNumbers : Tryz.prog.globalNamed "towncrier/op.numbers" = some 2 := by kernel_rfl
theorem gWorded : Tryz.prog.globalNamed "towncrier/op.worded" = some 1 := by kernel_rfl

/-- What the world must hold for the operations' functions. -/
structure LayO (w : World) : Prop where
  names : w.var? Tryz.prog "towncrier/op.names" = some (opNames.map Value.string).toArray
  numbers : w.var? Tryz.prog "towncrier/op.numbers" = some (opNumbers.map (Value.int .i64)).toArray
  worded : w.var? Tryz.prog "towncrier/op.worded" = some (opWorded.map Value.bool).toArray
theorem LayO.below {w w' : World} (h : LayO w) (hb : Below w.heap.size w w') : LayO w' :=
  ⟨var_below hb h.names, var_below hb h.numbers, var_below hb h.worded⟩
theorem LayO.name {w : World} (h : LayO w) {j : Nat} {x : ByteArray} (hx : opNames[j]? = some x) : w.cell? ⟨0, j, none⟩ = some (.string x) := by
  have := World.var?_cell gNames h.names j
  simpa [hx] using this
theorem LayO.number {w : World} (h : LayO w) {j : Nat} {x : Int} (hx : opNumbers[j]? = some x) : w.cell? ⟨2, j, none⟩ = some (.int .i64 x) := by
  have := World.var?_cell gNumbers h.numbers j
  simpa [hx] using this
theorem LayO.word {w : World} (h : LayO w) {j : Nat} {x : Bool} (hx : opWorded[j]? = some x) : w.cell? ⟨1, j, none⟩ = some (.bool x) := by
  have := World.var?_cell gWorded h.worded j
  simpa [hx] using this

def there (c : Int) : Bool := decide (1 ≤ c) && decide (c < 18)
def nameW (c : Int) : ByteArray := if there c = true then opNames.getD c.toNat ByteArray.empty else ByteArray.empty
def numbersW (c : Int) : Int := if there c = true then opNumbers.getD c.toNat 0 else 0
def wordedW (c : Int) : Bool := there c && opWorded.getD c.toNat false

theorem othere_any (c : Int) (w : World) : Calls Tryz.prog 29 #[.int .i64 c] w fun e w' => e = .returned (.bool (there c)) ∧ w' = w := by
  by_cases h1 : 1 ≤ c
  · by_cases h2 : c < 18
    · go_enter Tryz.func29, Tryz.ntmps29
      go_wp2
      go_ret
      exact ⟨by simp [there, h1, h2], rfl⟩
    · go_enter Tryz.func29, Tryz.ntmps29
      go_wp2
      go_ret
      exact ⟨by simp [there, h2], rfl⟩
  · go_enter Tryz.func29, Tryz.ntmps29
    go_wp2
    go_ret
    exact ⟨by simp only [there, decide_eq_false (show ¬ 1 ≤ c by omega), Bool.false_and]; rfl, rfl⟩
theorem there_nat {c : Int} (h : there c = true) : ∃ j : Nat, c = j ∧ 1 ≤ j ∧ j < 18 := by
  simp [there] at h
  exact ⟨c.toNat, by omega, by omega, by omega⟩

set_option maxRecDepth 100000 in
theorem oname_any (c : Int) (w : World) (hO : LayO w) : Calls Tryz.prog 23 #[.int .i64 c] w fun e w' => e = .returned (.string (nameW c)) ∧ w' = w := by
  have ht := othere_any c w
  have hdef : nameW c = if there c = true then opNames.getD c.toNat ByteArray.empty else ByteArray.empty := rfl
  cases hc : there c with
  | false =>
    rw [hc] at ht hdef
    have HG := hide_ hdef
    clear hc hdef
    go_enter Tryz.func23, Tryz.ntmps23
    go_wp2_with (go_at_call 29; refine ht.mono ?_; rintro e w1 ⟨rfl, rfl⟩)
    go_ret
    exact ⟨by rw [HG.out]; rfl, rfl⟩
  | true =>
    rw [hc] at ht hdef
    obtain ⟨j, rfl, h1, h2⟩ := there_nat hc
    clear hc
    obtain ⟨x, hx⟩ : ∃ x, opNames[j]? = some x := ⟨_, List.getElem?_eq_getElem (by rw [opNames_length]; exact h2)⟩
    have hcell := hO.name hx
    have hg : opNames.getD j ByteArray.empty = x := by simp [List.getD, hx]
    rw [Int.toNat_natCast, hg] at hdef
    have HG := hide_ hdef
    clear hg hx hdef
    go_enter Tryz.func23, Tryz.ntmps23
    go_wp2_with (go_at_call 29; refine ht.mono ?_; rintro e w1 ⟨rfl, rfl⟩)
    go_ret
    exact ⟨by rw [HG.out]; rfl, rfl⟩
set_option maxRecDepth 100000 in
theorem onumbers_any (c : Int) (w : World) (hO : LayO w) : Calls Tryz.prog 40 #[.int .i64 c] w fun e w' => e = .returned (.int .i64 (numbersW c)) ∧ w' = w := by
  have ht := othere_any c w
  have hdef : numbersW c = if there c = true then opNumbers.getD c.toNat 0 else 0 := rfl
  cases hc : there c with
  | false =>
    rw [hc] at ht hdef
    have HG := hide_ hdef
    clear hc hdef
    go_enter Tryz.func40, Tryz.ntmps40
    go_wp2_with (go_at_call 29; refine ht.mono ?_; rintro e w1 ⟨rfl, rfl⟩)
    go_ret
    exact ⟨by rw [HG.out]; rfl, rfl⟩
  | true =>
    rw [hc] at ht hdef
    obtain ⟨j, rfl, h1, h2⟩ := there_nat hc
    clear hc
    obtain ⟨x, hx⟩ : ∃ x, opNumbers[j]? = some x := ⟨_, List.getElem?_eq_getElem (by show j < 18; exact h2)⟩
    have hcell := hO.number hx
    have hg : opNumbers.getD j 0 = x := by simp [List.getD, hx]
    rw [Int.toNat_natCast, hg] at hdef
    have HG := hide_ hdef
    clear hg hx hdef
    go_enter Tryz.func40, Tryz.ntmps40
    go_wp2_with (go_at_call 29; refine ht.mono ?_; rintro e w1 ⟨rfl, rfl⟩)
    go_ret
    exact ⟨by rw [HG.out]; rfl, rfl⟩
set_option maxRecDepth 100000 in
theorem oworded_any (c : Int) (w : World) (hO : LayO w) : Calls Tryz.prog 37 #[.int .i64 c] w fun e w' => e = .returned (.bool (wordedW c)) ∧ w' = w := by
  have ht := othere_any c w
  have hdef : wordedW c = (there c && opWorded.getD c.toNat false) := rfl
  cases hc : there c with
  | false =>
    rw [hc] at ht hdef
    have HG := hide_ hdef
    clear hc hdef
    go_enter Tryz.func37, Tryz.ntmps37
    go_wp2_with (go_at_call 29; refine ht.mono ?_; rintro e w1 ⟨rfl, rfl⟩)
    go_ret
    exact ⟨by rw [HG.out]; rfl, rfl⟩
  | true =>
    rw [hc] at ht hdef
    obtain ⟨j, rfl, h1, h2⟩ := there_nat hc
    clear hc
    obtain ⟨x, hx⟩ : ∃ x, opWorded[j]? = some x := ⟨_, List.getElem?_eq_getElem (by show j < 18; exact h2)⟩
    have hcell := hO.word hx
    have hg : opWorded.getD j false = x := by simp [List.getD, hx]
    rw [Int.toNat_natCast, hg] at hdef
    have HG := hide_ hdef
    clear hg hx hdef
    go_enter Tryz.func37, Tryz.ntmps37
    go_wp2_with (go_at_call 29; refine ht.mono ?_; rintro e w1 ⟨rfl, rfl⟩)
    go_ret
    exact ⟨by rw [HG.out]; rfl, rfl⟩
section
variable {P : Program}
theorem run_index_cell (w : World) (t e : TypeId) (n : Nat) (cs : Array Value) (k : IntKind) (j : Nat) (v : Value) (h : P.underlying t = some (.array n e)) (hj : j < n) (hs : (P.info? e).map (·.size) = some 1)
    (hp : ∀ off, cs[off]? = some v → (part e cs off).run P w = .ok v w) (hv : cs[j]? = some v) : (Instr.index t (.agg cs) (.int k (j : Int))).run P w = .ok v w := by
  cases hq : P.info? e with
  | none => simp [hq] at hs
  | some i =>
    have hi : i.size = 1 := by simpa [hq] using hs
    have hb : (0 : Int) ≤ j ∧ (j : Int) < n := by omega
    simp [Instr.index, run_underlying h, asIntOf, hb, hj, sizeOf, typeInfo, hq, hi, Sem.run_bind, hp j hv]
theorem run_part_cell {e : TypeId} (w : World) {d : TypeDesc} (hu : P.underlying e = some d) (hd : (match d with | .struct _ | .array _ _ => true | _ => false) = false) {xs : Array Value} {off : Nat} {v : Value} (hx : xs[off]? = some v) : (part e xs off).run P w = .ok v w := by
  cases d <;> simp at hd <;> simp [part, isAgg, run_underlying hu, hx]
end

def nums39 (x : S39) : List Int := [x.f1, x.f2, x.f3, x.f4]
/-- The number at place i may stand. -/
def numOk (k : Int) (i : Nat) (n : Int) : Bool := !((decide (1000000 < n) || decide (n < -1000000)) || (decide (k ≤ (i : Int)) && !decide (n = 0)))
/-- The numbers from place i on may stand. -/
def numsOk (k : Int) : Nat → List Int → Bool
  | _, [] => true
  | i, n :: r => numOk k i n && numsOk k (i + 1) r
/-- The word may stand. -/
def wordOk (x : S39) : Bool := decide (x.f5 = ⟨#[]⟩) || (wordedW x.f0 && rightW x.f5.data.toList)
def rightO (x : S39) : Bool := there x.f0 && (wordOk x && numsOk (numbersW x.f0) 0 (nums39 x))

theorem olist_any (x : S39) (w : World) : Calls Tryz.prog 39 #[(opV x)] w fun e w' => e = .returned (.agg #[.int .i64 x.f1, .int .i64 x.f2, .int .i64 x.f3, .int .i64 x.f4]) ∧ Below w.heap.size w w' := by
  simp only [opV]
  go_enter Tryz.func39, Tryz.ntmps39
  go_wp2
  refine bodyPost_ret (results_cell_row rfl _ _ _ _ _ _ _ rfl (heap_alloc2_new _ _ _) Tryz.underlying100 rfl (by kernel_rfl)) rfl ?_
  exact ⟨rfl, ((Below.refl w.heap.size w).alloc (Nat.le_refl _) _).alloc (by simp) _⟩

theorem index100 (a b c d : Int) (i : Nat) (n : Int) (hi : i < 4) (h : ([a, b, c, d] : List Int)[i]? = some n) (W : World) :
    (Instr.index 100 (.agg #[.int .i64 a, .int .i64 b, .int .i64 c, .int .i64 d]) (.int .i64 (i : Int))).run Tryz.prog W = .ok (.int .i64 n) W := by
  refine run_index_cell W 100 3 4 _ .i64 i _ Tryz.underlying100 hi (by kernel_rfl) (fun off h => run_part_cell W Tryz.underlying3 rfl h) ?_
  have : i = 0 ∨ i = 1 ∨ i = 2 ∨ i = 3 := by omega
  rcases this with rfl | rfl | rfl | rfl <;> simp at h <;> subst h <;> rfl

set_option maxRecDepth 100000 in
set_option maxHeartbeats 3200000 in
theorem oright_any (x : S39) (w : World) (hO : LayO w) : Calls Tryz.prog 27 #[(opV x)] w fun e w' => e = .returned (.bool (rightO x)) ∧ Below w.heap.size w w' := by
  have hth := fun W => othere_any x.f0 W
  have hwo := fun W h => oworded_any x.f0 W h
  have hri := fun W => right_any x.f5 W
  have hli := fun W => olist_any x W
  simp only [opV] at hli ⊢
  have hnu := fun W h => onumbers_any x.f0 W h
  have hbo := fun X => (Below.refl w.heap.size w).alloc (Nat.le_refl _) X
  have hX0 := fun X => heap_alloc_new w X
  cases hc : there x.f0 with
  | false =>
    have HR : Hd (rightO x = false) := ⟨by rw [rightO, hc]; rfl⟩
    rw [hc] at hth
    clear hc
    go_enter Tryz.func27, Tryz.ntmps27
    go_wp2_with (go_at_call 29; refine (hth _).mono ?_; rintro e w1 ⟨rfl, rfl⟩)
    go_ret
    exact ⟨by rw [HR.out]; rfl, hbo _⟩
  | true =>
    rw [hc] at hth
    cases hw : wordOk x with
    | false =>
      have HR : Hd (rightO x = false) := ⟨by rw [rightO, hc, hw]; rfl⟩
      rw [wordOk, Bool.or_eq_false_iff, decide_eq_false_iff_not, Bool.and_eq_false_iff] at hw
      obtain ⟨hs, hw⟩ := hw
      have he : x.f5.toList.isEmpty = false := by
        cases h : x.f5.toList.isEmpty with
        | false => rfl
        | true => exact absurd (toList_inj (a := x.f5) (b := ⟨#[]⟩) ((List.isEmpty_iff.1 h).trans (ByteArray.toList_eq ⟨#[]⟩).symm)) hs
      clear hs hc
      cases hwd : wordedW x.f0 with
      | false =>
        rw [hwd] at hwo
        clear hw hwd
        go_enter Tryz.func27, Tryz.ntmps27
        go_wp2_with (first
          | (go_at_call 29; refine (hth _).mono ?_; rintro e w1 ⟨rfl, rfl⟩)
          | (go_at_call 37; refine (hwo _ (hO.below (hbo _))).mono ?_; rintro e w1 ⟨rfl, rfl⟩))
        go_ret
        exact ⟨by rw [HR.out]; rfl, hbo _⟩
      | true =>
        have hr : rightW x.f5.data.toList = false := by simpa [hwd] using hw
        rw [hwd] at hwo
        rw [hr] at hri
        clear hw hwd hr
        go_enter Tryz.func27, Tryz.ntmps27
        go_wp2_with (first
          | (go_at_call 29; refine (hth _).mono ?_; rintro e w1 ⟨rfl, rfl⟩)
          | (go_at_call 37; refine (hwo _ (hO.below (hbo _))).mono ?_; rintro e w1 ⟨rfl, rfl⟩)
          | (go_at_call 38; refine (hri _).mono ?_; rintro e w2 ⟨rfl, hB2⟩))
        go_ret
        exact ⟨by rw [HR.out]; rfl, below_then (hbo _) (hbo _).size hB2⟩
    | true =>
      have HR : Hd (rightO x = numsOk (numbersW x.f0) 0 (nums39 x)) := ⟨by rw [rightO, hc, hw]; rfl⟩
      clear hc
      cases he : x.f5.toList.isEmpty with
      | true =>
        clear hw
        go_enter Tryz.func27, Tryz.ntmps27
        go_wp2_with (first
          | (go_at_call 29; refine (hth _).mono ?_; rintro e w1 ⟨rfl, rfl⟩)
          | (go_at_call 39; refine (hli _).mono ?_; rintro e w3 ⟨rfl, hB3⟩; have hC3 := below_then (hbo _) (hbo _).size hB3; have hX3 := (hB3.block _ (blk_lt (hX0 _))).trans (hX0 _)))
        have hO3 := hO.below hC3
        have hk := hnu w3 hO3
        have hx0 : w3.cell? ⟨w.heap.size, 0, none⟩ = some (.int .i64 x.f0) := blk_cell hX3 0
        go_loopw [27] (fun v wr => ∃ i : Nat, i ≤ 4 ∧ v = .int .i64 i ∧ wr = w3 ∧ Hd (numsOk (numbersW x.f0) 0 (nums39 x) = numsOk (numbersW x.f0) i ((nums39 x).drop i))) (fun v _ => 4 - (intOf v).toNat)
        case atStart => exact ⟨0, by omega, rfl, rfl, ⟨rfl⟩⟩
        case round =>
          obtain ⟨i, hi, rfl, rfl, HN⟩ := hrel
          by_cases hlt : i < 4
          · obtain ⟨n, hn⟩ : ∃ n, (nums39 x)[i]? = some n := ⟨_, List.getElem?_eq_getElem (by show i < 4; exact hlt)⟩
            have hix := index100 x.f1 x.f2 x.f3 x.f4 i n hlt hn
            have HD : Hd (numsOk (numbersW x.f0) i ((nums39 x).drop i) = (numOk (numbersW x.f0) i n && numsOk (numbersW x.f0) (i + 1) ((nums39 x).drop (i + 1)))) := ⟨by
              have h := List.getElem?_eq_some_iff.1 hn
              rw [List.drop_eq_getElem_cons h.1, h.2, numsOk]⟩
            clear hn
            generalize numbersW x.f0 = k at *
            by_cases a1 : 1000000 < n
            · have HB2 : Hd (numsOk k 0 (nums39 x) = false) := ⟨by rw [HN.out, HD.out, numOk, decide_eq_true a1]; rfl⟩
              go_wp2_with (go_at_call 40; refine hk.mono ?_; rintro e w4 ⟨rfl, rfl⟩)
              go_ret
              exact ⟨by rw [HR.out, HB2.out]; rfl, hC3⟩
            · by_cases a2 : n < -1000000
              · have HB2 : Hd (numsOk k 0 (nums39 x) = false) := ⟨by rw [HN.out, HD.out, numOk, decide_eq_true a2, Bool.or_true]; rfl⟩
                go_wp2_with (go_at_call 40; refine hk.mono ?_; rintro e w4 ⟨rfl, rfl⟩)
                go_ret
                exact ⟨by rw [HR.out, HB2.out]; rfl, hC3⟩
              · by_cases a3 : k ≤ (i : Int)
                · by_cases a4 : n = 0
                  · have HG : Hd (numsOk k 0 (nums39 x) = numsOk k (i + 1) ((nums39 x).drop (i + 1))) := ⟨by rw [HN.out, HD.out, numOk, decide_eq_false a1, decide_eq_false a2, decide_eq_true a4]; simp⟩
                    subst a4
                    go_wp2_with (go_at_call 40; refine hk.mono ?_; rintro e w4 ⟨rfl, rfl⟩)
                    go_roundw
                    case rel => exact ⟨i + 1, by omega, by go_num, trivial, HG⟩
                    case measure => simp [intOf]; omega
                  · have HB2 : Hd (numsOk k 0 (nums39 x) = false) := ⟨by rw [HN.out, HD.out, numOk, decide_eq_true a3, decide_eq_false a4]; simp⟩
                    have a5 : (n == 0) = false := by rw [beq_eq_false_iff_ne]; exact a4
                    clear a4
                    go_wp2_with (go_at_call 40; refine hk.mono ?_; rintro e w4 ⟨rfl, rfl⟩)
                    go_ret
                    exact ⟨by rw [HR.out, HB2.out]; rfl, hC3⟩
                · have HG : Hd (numsOk k 0 (nums39 x) = numsOk k (i + 1) ((nums39 x).drop (i + 1))) := ⟨by rw [HN.out, HD.out, numOk, decide_eq_false a1, decide_eq_false a2, decide_eq_false a3]; simp⟩
                  go_wp2_with (go_at_call 40; refine hk.mono ?_; rintro e w4 ⟨rfl, rfl⟩)
                  go_roundw
                  case rel => exact ⟨i + 1, by omega, by go_num, trivial, HG⟩
                  case measure => simp [intOf]; omega
          · obtain rfl : i = 4 := by omega
            have HB2 : Hd (numsOk (numbersW x.f0) 0 (nums39 x) = true) := ⟨by rw [HN.out]; rfl⟩
            go_wp2
            go_ret
            exact ⟨by rw [HR.out, HB2.out]; rfl, hC3⟩
      | false =>
        have hw2 : wordedW x.f0 = true ∧ rightW x.f5.data.toList = true := by
          have hs : ¬ x.f5 = ⟨#[]⟩ := by
            intro h; rw [h, ByteArray.toList_eq] at he; simp at he
          rw [wordOk, decide_eq_false hs, Bool.false_or, Bool.and_eq_true] at hw
          exact hw
        rw [hw2.1] at hwo
        rw [hw2.2] at hri
        clear hw hw2
        go_enter Tryz.func27, Tryz.ntmps27
        go_wp2_with (first
          | (go_at_call 29; refine (hth _).mono ?_; rintro e w1 ⟨rfl, rfl⟩)
          | (go_at_call 37; refine (hwo _ (hO.below (hbo _))).mono ?_; rintro e w1 ⟨rfl, rfl⟩)
          | (go_at_call 38; refine (hri _).mono ?_; rintro e w2 ⟨rfl, hB2⟩; have hC2 := below_then (hbo _) (hbo _).size hB2; have hX2 := (hB2.block _ (blk_lt (hX0 _))).trans (hX0 _))
          | (refine gate_ (.load 39 (.tmp 1)) rfl ?_; refine wpList_load_row rfl 39 (.tmp 1) rfl _ rfl _ _ _ _ hX2 Tryz.underlying39 rfl info39s ?_)
          | (go_at_call 39; refine (hli _).mono ?_; rintro e w3 ⟨rfl, hB3⟩; have hC3 := below_then hC2 hC2.size hB3; have hX3 := (hB3.block _ (blk_lt hX2)).trans hX2))
        have hO3 := hO.below hC3
        have hk := hnu w3 hO3
        have hx0 : w3.cell? ⟨w.heap.size, 0, none⟩ = some (.int .i64 x.f0) := blk_cell hX3 0
        go_loopw [27] (fun v wr => ∃ i : Nat, i ≤ 4 ∧ v = .int .i64 i ∧ wr = w3 ∧ Hd (numsOk (numbersW x.f0) 0 (nums39 x) = numsOk (numbersW x.f0) i ((nums39 x).drop i))) (fun v _ => 4 - (intOf v).toNat)
        case atStart => exact ⟨0, by omega, rfl, rfl, ⟨rfl⟩⟩
        case round =>
          obtain ⟨i, hi, rfl, rfl, HN⟩ := hrel
          by_cases hlt : i < 4
          · obtain ⟨n, hn⟩ : ∃ n, (nums39 x)[i]? = some n := ⟨_, List.getElem?_eq_getElem (by show i < 4; exact hlt)⟩
            have hix := index100 x.f1 x.f2 x.f3 x.f4 i n hlt hn
            have HD : Hd (numsOk (numbersW x.f0) i ((nums39 x).drop i) = (numOk (numbersW x.f0) i n && numsOk (numbersW x.f0) (i + 1) ((nums39 x).drop (i + 1)))) := ⟨by
              have h := List.getElem?_eq_some_iff.1 hn
              rw [List.drop_eq_getElem_cons h.1, h.2, numsOk]⟩
            clear hn
            generalize numbersW x.f0 = k at *
            by_cases a1 : 1000000 < n
            · have HB2 : Hd (numsOk k 0 (nums39 x) = false) := ⟨by rw [HN.out, HD.out, numOk, decide_eq_true a1]; rfl⟩
              go_wp2_with (go_at_call 40; refine hk.mono ?_; rintro e w4 ⟨rfl, rfl⟩)
              go_ret
              exact ⟨by rw [HR.out, HB2.out]; rfl, hC3⟩
            · by_cases a2 : n < -1000000
              · have HB2 : Hd (numsOk k 0 (nums39 x) = false) := ⟨by rw [HN.out, HD.out, numOk, decide_eq_true a2, Bool.or_true]; rfl⟩
                go_wp2_with (go_at_call 40; refine hk.mono ?_; rintro e w4 ⟨rfl, rfl⟩)
                go_ret
                exact ⟨by rw [HR.out, HB2.out]; rfl, hC3⟩
              · by_cases a3 : k ≤ (i : Int)
                · by_cases a4 : n = 0
                  · have HG : Hd (numsOk k 0 (nums39 x) = numsOk k (i + 1) ((nums39 x).drop (i + 1))) := ⟨by rw [HN.out, HD.out, numOk, decide_eq_false a1, decide_eq_false a2, decide_eq_true a4]; simp⟩
                    subst a4
                    go_wp2_with (go_at_call 40; refine hk.mono ?_; rintro e w4 ⟨rfl, rfl⟩)
                    go_roundw
                    case rel => exact ⟨i + 1, by omega, by go_num, trivial, HG⟩
                    case measure => simp [intOf]; omega
                  · have HB2 : Hd (numsOk k 0 (nums39 x) = false) := ⟨by rw [HN.out, HD.out, numOk, decide_eq_true a3, decide_eq_false a4]; simp⟩
                    have a5 : (n == 0) = false := by rw [beq_eq_false_iff_ne]; exact a4
                    clear a4
                    go_wp2_with (go_at_call 40; refine hk.mono ?_; rintro e w4 ⟨rfl, rfl⟩)
                    go_ret
                    exact ⟨by rw [HR.out, HB2.out]; rfl, hC3⟩
                · have HG : Hd (numsOk k 0 (nums39 x) = numsOk k (i + 1) ((nums39 x).drop (i + 1))) := ⟨by rw [HN.out, HD.out, numOk, decide_eq_false a1, decide_eq_false a2, decide_eq_false a3]; simp⟩
                  go_wp2_with (go_at_call 40; refine hk.mono ?_; rintro e w4 ⟨rfl, rfl⟩)
                  go_roundw
                  case rel => exact ⟨i + 1, by omega, by go_num, trivial, HG⟩
                  case measure => simp [intOf]; omega
          · obtain rfl : i = 4 := by omega
            have HB2 : Hd (numsOk (numbersW x.f0) 0 (nums39 x) = true) := ⟨by rw [HN.out]; rfl⟩
            go_wp2
            go_ret
            exact ⟨by rw [HR.out, HB2.out]; rfl, hC3⟩
end Go.Proofs.YtgopddjmmoohdaaGreatDoor

/- A node's call, its children in a row of the call's own; children that leave. -/
set_option linter.unusedSimpArgs false
set_option linter.unusedVariables false
namespace Go.Proofs.YtgopddjmmoohdaaGreatDoor
open Go.RowKit Go.Proofs.YtgopddjmmoohdaaGreatDoorW.PrintWords Go.Proofs.YtgopddjmmoohdaaGreatDoorW.PrintLast Go.Proofs.YtgopddjmmoohdaaGreatDoor.PPlaySilent

set_option maxRecDepth 100000 in
set_option maxHeartbeats 1600000 in
theorem node_someR (F j : Nat) (x : S115) (l : List S115) (w : World) (h : FoR w F l) (hx : l[j]? = some x) (hk : x.f8.length ≤ 100000) :
    Calls Tryz.prog 57 #[.pointer (some ⟨F, 0, none⟩), .int .i64 ((j + 1 : Nat) : Int)] w fun e w' => ∃ A c, e = .returned (.tuple #[nodeV x A c, .bool true]) ∧ x.f8.length ≤ c ∧ (Kd.int .i64).R 3 w' w.heap.size (fun _ => True) (.slice A x.f8.length c) x.f8 ∧ Below w.heap.size w w' := by
  obtain ⟨g, cap, A8, c8, hF, k0, k1, k2, k3, k4, k5, k6, k7, k8, l8, g8⟩ := node_at h hx
  have hj := (List.getElem?_eq_some_iff.1 hx).1
  have h128 : l.length ≤ 128 := by obtain ⟨_, _, _, _, _, h3⟩ := h; exact h3
  have hat := fun o => at_some F j l (w.alloc o) g cap (alloc_at hF o) hj h128
  have HC : Hid (∀ i v, ([.int .i64 x.f0, .int .i64 x.f1, .int .i64 x.f2, .int .i64 x.f3, .int .i64 x.f4, .bool x.f5, .string x.f6, .string x.f7, .slice A8 x.f8.length c8] : List Value)[i]? = some v → w.cell? ((⟨g, j * 9, none⟩ : Addr).add i) = some v) := hide_ (by
    intro i v hi
    rw [add_off]
    have hlt : i < 9 := (List.getElem?_eq_some_iff.1 hi).1
    have : i = 0 ∨ i = 1 ∨ i = 2 ∨ i = 3 ∨ i = 4 ∨ i = 5 ∨ i = 6 ∨ i = 7 ∨ i = 8 := by omega
    rcases this with rfl | rfl | rfl | rfl | rfl | rfl | rfl | rfl | rfl
    all_goals (simp at hi; subst hi; assumption))
  have HB8 : Hid (w.cell? ⟨g, j * 9 + 8, none⟩ = some (.slice A8 x.f8.length c8)) := hide_ k8
  clear h hx k0 k1 k2 k3 k4 k5 k6 k7 k8
  go_enter Tryz.func57, Tryz.ntmps57
  go_wp2_with (first
    | (go_at_call 64; refine (hat _).mono ?_; rintro e w1 ⟨rfl, rfl⟩)
    | (refine gate_ (.load 115 (.tmp 15)) rfl ?_; refine wpList_load_list rfl 115 (.tmp 15) rfl _ rfl [.int .i64 x.f0, .int .i64 x.f1, .int .i64 x.f2, .int .i64 x.f3, .int .i64 x.f4, .bool x.f5, .string x.f6, .string x.f7, .slice A8 x.f8.length c8] _ (fun i v hi => cell_alloc_at (HC.out i v hi) _) Tryz.underlying115 rfl info115 ?_; have k8 := fun o o' => cell_alloc_at (cell_alloc_at HB8.out o) o')
    | (go_at_call 74; refine (clone_any x.f8 A8 c8 _ (Kd.C_below g8 (below_alloc (below_alloc (Below.refl _ w) _) _)) (by omega)).mono ?_; rintro e w4 ⟨A9, c9, rfl, l9, -, hR9, hB4⟩; obtain ⟨hX4, hX7, hBw⟩ := two_new hB4; have z8 := blk_cell hX7 8; have zf := blk_frozen hX7 8; have hX7' := blk_put hX7 8 (.slice A9 x.f8.length c9) (cs' := #[.int .i64 x.f0, .int .i64 x.f1, .int .i64 x.f2, .int .i64 x.f3, .int .i64 x.f4, .bool x.f5, .string x.f6, .string x.f7, .slice A9 x.f8.length c9]) rfl; have hX4' := (Below.heap_setCell w4 ⟨w.heap.size + 1, 8, none⟩ (.slice A9 x.f8.length c9) w.heap.size (by show w.heap.size ≠ w.heap.size + 1; omega)).trans hX4; clear k8)
    | (refine gate_ (.load 115 (.tmp 7)) rfl ?_; refine wpList_load_row rfl 115 (.tmp 7) rfl (w.heap.size + 1) rfl 115 _ (0, 0) _ hX7' Tryz.underlying115 rfl info115 ?_)
    | (refine gate_ (.store 115 (.tmp 4) (.tmp 23)) rfl ?_; refine wpList_store_row rfl 115 (.tmp 4) (.tmp 23) rfl w.heap.size 115 _ _ rfl rfl hX4' info115 rfl (by simp [Value.oneCell']) ?_; intro w5 hR5 hO5 hB5 _))
  refine bodyPost_ret (results_node rfl hR5 rfl rfl) rfl ?_
  have hR9' : (Kd.int .i64).R 3 w5 _ _ (.slice A9 x.f8.length c9) x.f8 := Kd.R_step (Kd.R_bound hR9) (fun k hk _ => by
    have h2 := hk.2.1
    simp at h2
    exact (hO5 k (by omega)).trans (Below.heap_setCell w4 ⟨w.heap.size + 1, 8, none⟩ _ k (by show k ≠ w.heap.size + 1; omega)))
  exact ⟨A9, c9, rfl, l9, Kd.R_lower (Kd.R_mono hR9' (fun _ _ => trivial)) (by simp; omega), (below_set_cell hBw (by omega) _ _).trans hB5⟩
theorem node_callR (F : Nat) (id : Int) (l : List S115) (w : World) (h : FoR w F l) (hk : kidsOk l) :
    Calls Tryz.prog 57 #[.pointer (some ⟨F, 0, none⟩), .int .i64 id] w fun e w' => ∃ A c, e = .returned (.tuple #[nodeV (nodeD l id) A c, .bool (isN l id)]) ∧ (nodeD l id).f8.length ≤ c ∧ (Kd.int .i64).R 3 w' w.heap.size (fun _ => True) (.slice A (nodeD l id).f8.length c) (nodeD l id).f8 ∧ Below w.heap.size w w' := by
  cases hn : nodeF l id with
  | none =>
    rw [nodeD_none hn, show isN l id = false by rw [isN, hn]; rfl]
    refine (node_none F id l w h hn).mono ?_
    rintro e w' ⟨rfl, hb⟩
    exact ⟨none, 0, rfl, Nat.le_refl _, Kd.R_nil _ _ _ _ _, hb⟩
  | some x =>
    rw [nodeD_some hn, show isN l id = true by rw [isN, hn]; rfl]
    obtain ⟨j, rfl, hj, hx⟩ := nodeF_some hn
    exact node_someR F j x l w h hx (hk x (List.mem_of_getElem? hx))
end Go.Proofs.YtgopddjmmoohdaaGreatDoor

/- edit over forests: leave. -/
set_option linter.unusedSimpArgs false
set_option linter.unusedVariables false
namespace Go.Proofs.YtgopddjmmoohdaaGreatDoor
open Go.RowKit Go.Proofs.YtgopddjmmoohdaaGreatDoorW.PrintWords Go.Proofs.YtgopddjmmoohdaaGreatDoorW.PrintLast Go.Proofs.YtgopddjmmoohdaaGreatDoor.PPlaySilent

/-- A node leaves its parent. -/
def leaveF (l : List S115) (node : Int) : List S115 :=
  if isN l (nodeD l node).f1 = true then putF l (nodeD l node).f1 ((nodeD l (nodeD l node).f1).f8.eraseIdx (Lib.idxOf (nodeD l (nodeD l node).f1).f8 node).toNat) else l
theorem WF.leave {l : List S115} (h : WF l) (node : Int) : WF (leaveF l node) := by
  unfold leaveF
  split
  · refine h.put _ _ (Nat.le_trans ?_ (nodeD_kids h.kl (nodeD l node).f1))
    rw [List.length_eraseIdx]
    split <;> omega
  · exact h
theorem nodeD_mem {l : List S115} (h : WF l) {node : Int} (hp : isN l (nodeD l node).f1 = true) : node ∈ (nodeD l (nodeD l node).f1).f8 := by
  cases hn : nodeF l node with
  | none =>
    rw [nodeD_none hn] at hp
    have : nodeF l 0 = none := nodeF_zero l
    rw [isN, show z115.f1 = 0 from rfl, this] at hp
    cases hp
  | some y =>
    rw [nodeD_some hn] at hp ⊢
    cases hq : nodeF l y.f1 with
    | none => rw [isN, hq] at hp; cases hp
    | some x =>
      rw [nodeD_some hq]
      exact (h.kids _ _ hq node).2 ⟨y, hn, rfl⟩
theorem idxOf_mem {xs : List Int} {x : Int} (h : x ∈ xs) : ∃ k : Nat, k < xs.length ∧ Lib.idxOf xs x = k := by
  rcases idxOf_cases xs x with ⟨_, h2⟩ | ⟨k, h1, h2⟩
  · exact absurd h h2
  · exact ⟨k, (List.getElem?_eq_some_iff.1 h1).1, h2⟩
set_option maxRecDepth 100000 in
set_option maxHeartbeats 3200000 in
theorem leave_any (P : Nat → Prop) (w0 : World) (F : Nat) (node : Int) (l : List S115) (w : World) (h : FoC P w0 w F l) (hW : WF l) :
    Calls Tryz.prog 69 #[.pointer (some ⟨F, 0, none⟩), .int .i64 node] w fun e w' => e = .returned (.tuple #[]) ∧ FoC (grow P w.heap.size w'.heap.size) w0 w' F (leaveF l node) ∧ Ste P w w' := by
  have hn1 := node_call F node l w h.read hW.kl
  have hn2 := fun W (hB : Below w.heap.size w W) => node_callR F (nodeD l node).f1 l W (h.below hB).read hW.kl
  have HL := hd_ (show leaveF l node = if isN l (nodeD l node).f1 = true then putF l (nodeD l node).f1 ((nodeD l (nodeD l node).f1).f8.eraseIdx (Lib.idxOf (nodeD l (nodeD l node).f1).f8 node).toNat) else l from rfl)
  have hk2 := nodeD_kids hW.kl (nodeD l node).f1
  have hm := nodeD_mem hW (node := node)
  simp only [nodeV] at hn1 hn2
  generalize leaveF l node = r at *
  generalize nodeD l (nodeD l node).f1 = y at *
  generalize nodeD l node = x at *
  generalize isN l x.f1 = b2 at *
  generalize isN l node = b at *
  cases b2 with
  | false =>
    replace HL := hd_ (HL.out.trans (if_neg (by simp)))
    go_enter Tryz.func69, Tryz.ntmps69
    go_wp2_with (first
      | (go_at_call 57; (with_reducible refine hn1.mono ?_); rintro e w1 ⟨A, c, rfl, -, -, hB1⟩; have hC1 := below_alloc hB1 (.cells #[.int .i64 x.f0, .int .i64 x.f1, .int .i64 x.f2, .int .i64 x.f3, .int .i64 x.f4, .bool x.f5, .string x.f6, .string x.f7, .slice A x.f8.length c] 115); have hX1 := blk_new w1 (.cells #[.int .i64 x.f0, .int .i64 x.f1, .int .i64 x.f2, .int .i64 x.f3, .int .i64 x.f4, .bool x.f5, .string x.f6, .string x.f7, .slice A x.f8.length c] 115))
      | (go_at_call 57; (with_reducible refine (hn2 _ hC1).mono ?_); rintro e w2 ⟨A2, c2, rfl, -, -, hB2⟩; have hC2 := below_alloc (below_then hC1 hC1.size hB2) (.cells #[.int .i64 y.f0, .int .i64 y.f1, .int .i64 y.f2, .int .i64 y.f3, .int .i64 y.f4, .bool y.f5, .string y.f6, .string y.f7, .slice A2 y.f8.length c2] 115)))
    go_end0
    rw [HL.out]
    exact ⟨rfl, h.mono_below hC2, Ste.of_below hC2⟩
  | true =>
    replace HL := hd_ (HL.out.trans (if_pos rfl))
    obtain ⟨k, hk, hki⟩ := idxOf_mem (hm rfl)
    have hkb : (k : Int) < 100000 := by omega
    rw [hki, Int.toNat_natCast] at HL
    have hix := fun A c W h => index_any y.f8 node A c W h (by omega)
    have hdl := fun A c base ok W h => delete_any y.f8 A c k base ok W h hk
    rw [hki] at hix
    have hlen : (y.f8.eraseIdx k).length ≤ 100000 := Nat.le_trans (by rw [List.length_eraseIdx]; split <;> omega) hk2
    generalize y.f8.eraseIdx k = ks at *
    have hpu := fun W (hF : FoC P w0 W F l) A c hC hA hc => hF.put (A := A) (ks := ks) (c := c) hW x.f1 hC hA hc hlen
    have hlt := fun j hj => (h.lo j hj).2
    clear hm hki hW hk hlen hk2
    go_enter Tryz.func69, Tryz.ntmps69
    go_wp2_with (first
      | (go_at_call 57; (with_reducible refine hn1.mono ?_); rintro e w1 ⟨A, c, rfl, -, -, hB1⟩; have hC1 := below_alloc hB1 (.cells #[.int .i64 x.f0, .int .i64 x.f1, .int .i64 x.f2, .int .i64 x.f3, .int .i64 x.f4, .bool x.f5, .string x.f6, .string x.f7, .slice A x.f8.length c] 115); have hX1 := blk_new w1 (.cells #[.int .i64 x.f0, .int .i64 x.f1, .int .i64 x.f2, .int .i64 x.f3, .int .i64 x.f4, .bool x.f5, .string x.f6, .string x.f7, .slice A x.f8.length c] 115))
      | (go_at_call 57; (with_reducible refine (hn2 _ hC1).mono ?_); rintro e w2 ⟨A2, c2, rfl, hc2, hR2, hB2⟩; have hRl := Kd.R_lt hR2; replace hR2 := Kd.R_lower hR2 (base' := w1.heap.size + 1) (by simp); replace hX1 := blk_below hX1 (below_alloc hB2 (.cells #[.int .i64 y.f0, .int .i64 y.f1, .int .i64 y.f2, .int .i64 y.f3, .int .i64 y.f4, .bool y.f5, .string y.f6, .string y.f7, .slice A2 y.f8.length c2] 115)); have hC2 := below_alloc (below_then hC1 hC1.size hB2) (.cells #[.int .i64 y.f0, .int .i64 y.f1, .int .i64 y.f2, .int .i64 y.f3, .int .i64 y.f4, .bool y.f5, .string y.f6, .string y.f7, .slice A2 y.f8.length c2] 115); have hX2 := blk_new w2 (.cells #[.int .i64 y.f0, .int .i64 y.f1, .int .i64 y.f2, .int .i64 y.f3, .int .i64 y.f4, .bool y.f5, .string y.f6, .string y.f7, .slice A2 y.f8.length c2] 115); replace hR2 := Kd.R_below hR2 (below_alloc (Below.refl _ w2) (.cells #[.int .i64 y.f0, .int .i64 y.f1, .int .i64 y.f2, .int .i64 y.f3, .int .i64 y.f4, .bool y.f5, .string y.f6, .string y.f7, .slice A2 y.f8.length c2] 115)); have z8 := (blk_cell hX2 8).trans rfl)
      | (go_at_call 70; (with_reducible refine (hix _ _ _ (Kd.R_reads' hR2).2.2).mono ?_); rintro e w3 ⟨rfl, hw3⟩; obtain rfl := hw3.symm; clear hix hn1 hn2))
    --REG
    have hw1 := hB1.size
    have hw0 := h.base.size
    have hwr : IntKind.i64.wrap ((k : Int) + 1) = (k : Int) + 1 := by rw [IntKind.wrap_i64]; omega
    refine start_ (n := 10) (S := (fun W_ => W_.heap[w1.heap.size]? = some (.cells #[.int .i64 x.f0, .int .i64 x.f1, .int .i64 x.f2, .int .i64 x.f3, .int .i64 x.f4, .bool x.f5, .string x.f6, .string x.f7, .slice A x.f8.length c] 115 (0, 0)) ∧ W_.heap[w2.heap.size]? = some (.cells #[.int .i64 y.f0, .int .i64 y.f1, .int .i64 y.f2, .int .i64 y.f3, .int .i64 y.f4, .bool y.f5, .string y.f6, .string y.f7, .slice A2 y.f8.length c2] 115 (0, 0)))) (ds := [9]) (bm 10 0) (by kernel_rfl) rfl (by kernel_rfl) ⟨hX1, hX2⟩ (fun hHeld => ?_)
    refine pu_ 0 (some 27) (bm 10 1) ?_
    refine pu_ 1 (some 28) (bm 10 3) ?_
    refine ta_ 2 (some 29) (bm 10 7) hHeld (fun _ hSw => blk_cell hSw.1 1) ?_
    refine pu_ 3 (some 30) (bm 10 15) ?_
    refine ta_ 4 (some 31) (bm 10 31) hHeld (fun _ hSw => blk_cell hSw.2 8) ?_
    refine pu_ 5 (some 32) (bm 10 63) ?_
    refine pu_ 6 (some 33) (bm 10 127) ?_
    refine pu_ 7 (some 34) (bm 10 255) ?_
    refine one_ (i := 8) (N := (some 35)) (bm 10 511) rfl rfl (by kernel_rfl) (by decide) (fun K hK => ?_)
    refine goes_ Tryz.func121 (by kernel_rfl) rfl #[.slice A2 y.f8.length c2, .int .i64 k, .int .i64 ((k : Int) + 1)] (by rfl) rfl rfl (by try simp only [List.map_toArray, List.map_cons, List.map_nil]; first | done | rfl) ?_
    refine (hdl _ _ _ _ _ (Kd.R_below hR2 (below_drew (Below.refl _ _)))).mono ?_
    rintro e w4 ⟨rfl, hl4, hC4, g2, rfl, hg2, hg2s, hS4⟩
    refine ⟨_, rfl, ?_⟩
    refine hK.out _ _ ⟨hS4.blk hHeld.1 (by show ¬ _ = _; omega), hS4.blk hHeld.2 (by have := hRl g2 rfl; show ¬ _ = _; omega)⟩ (fun hHeld => ?_)
    clear hK K
    refine norm_ (a' := ?_) ?_ ?_
    rotate_left
    · show Act.put _ (some 35) _ = _
      simp only [Act.put, List.setIfInBounds_toArray, List.set_cons_zero, List.set_cons_succ]
      rfl
    refine last_ (i := 9) (N := (some 36)) (bm 10 1023) rfl rfl (by kernel_rfl) (by decide) (fun K hK => ?_)
    refine goes_ Tryz.func68 (by kernel_rfl) rfl #[.pointer (some ⟨F, 0, none⟩), .int .i64 x.f1, .slice (some ⟨g2, 0, none⟩) ks.length c2] (by rfl) rfl rfl (by try simp only [List.map_toArray, List.map_cons, List.map_nil]; first | done | rfl) ?_
    refine (hpu _ ((h.below (below_drew hC2)).ste hS4 (fun j hj => by have := hlt j hj; show ¬ _ = _; omega) (fun j hj => by obtain rfl : j = g2 := hj; omega)) _ _ hC4 (fun ad ha hp => by cases ha; have := hlt _ hp; simp only at this; omega) hl4).mono ?_
    rintro e w5 ⟨rfl, hF5, hS5⟩
    refine ⟨_, rfl, ?_⟩
    refine hK.out _ _ ?_
    clear hK K
    refine norm_ (a' := ?_) ?_ ?_
    rotate_left
    · show Act.put _ (some 36) _ = _
      simp only [Act.put, List.setIfInBounds_toArray, List.set_cons_zero, List.set_cons_succ]
      rfl
    refine done_ (by kernel_rfl) ?_
    go_end0
    rw [HL.out]
    have hS := ((Ste.of_below (P := P) (below_drew hC2)).trans hS4 (fun j hj => .inr (by obtain rfl : j = g2 := hj; omega)))
    exact ⟨rfl, hF5.wide hS.size (fun j hj => h.lo j hj) hw0, hS.trans hS5 (fun j hj => .inl hj)⟩
end Go.Proofs.YtgopddjmmoohdaaGreatDoor
