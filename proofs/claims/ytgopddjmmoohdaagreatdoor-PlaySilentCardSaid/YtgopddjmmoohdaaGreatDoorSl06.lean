/- The texts of this seat, joined: part 6 of 25. -/
import Derived.Test.YtgopddjmmoohdaaGreatDoorSl05
import Derived.Test.YtgopddjmmoohdaaGreatDoorSl01
/- arena.right, New, Make. -/
set_option linter.unusedSimpArgs false
set_option linter.unusedVariables false
namespace Go.Proofs.YtgopddjmmoohdaaGreatDoor
open Go.RowKit Go.Proofs.YtgopddjmmoohdaaGreatDoorW.PrintWords Go.Proofs.YtgopddjmmoohdaaGreatDoorW.PrintLast Go.Proofs.YtgopddjmmoohdaaGreatDoor.PPlaySilent

theorem ad_ (w : World) (o : Obj) (n : Nat) : Below w.heap.size w ((w.alloc o).drewN n) := pw_below_drewN (below_alloc (Below.refl _ _) _) n
theorem box_at {w w2 : World} {o : Obj} {n : Nat} (h : Below ((w.alloc o).drewN n).heap.size ((w.alloc o).drewN n) w2) : w2.heap[w.heap.size]? = some o := blk_below (show ((w.alloc o).drewN n).heap[w.heap.size]? = some o from alloc_new' rfl) h
/-- May a node be made? -/
def okN (k m : Int) (sl : Bool) (nm wt : ByteArray) : Bool := decide (1 ≤ k) && (decide (k ≤ 4) && ((if k = 3 then (m == 1 || m == 2) else m == 0) && ((k == 2 || (!sl && wt.toList.isEmpty)) && ((sl || nm.toList.isEmpty) && (namedW nm && namedW wt)))))
/-- A node's error. -/
def rightE (k : Int) (ok : Bool) : Int := if k < 1 then 2 else if 4 < k then 2 else if ok = true then 0 else 1
set_option maxRecDepth 100000 in
set_option maxHeartbeats 6400000 in
theorem right_node (k p h s m : Int) (sl : Bool) (nm wt : ByteArray) (A : Option Addr) (n c : Nat) (w : World) :
    Calls Tryz.prog 114 #[.agg #[.int .i64 k, .int .i64 p, .int .i64 h, .int .i64 s, .int .i64 m, .bool sl, .string nm, .string wt, .slice A n c]] w fun e w' => ∃ v : Int, e = .returned (.int .i64 v) ∧ ((v == 0) = okN k m sl nm wt ∧ v = rightE k (okN k m sl nm wt)) ∧ Below w.heap.size w w' := by
  have hn6 := named_any nm
  have hn7 := named_any wt
  obtain ⟨r, hr⟩ : ∃ r, r = okN k m sl nm wt := ⟨_, rfl⟩
  rw [← hr]
  by_cases k1 : k < 1
  · skip
    have H : Hd (r = false) := ⟨by rw [hr]; clear hr hn6 hn7; first | (simp [okN, *]; done) | (simp [okN, *]; omega) | (simp [okN, *]; intros; omega)⟩
    clear hr
    go_enter Tryz.func114, Tryz.ntmps114
    go_wp2
    go_quiet (fail)
    go_wp2_with (go_at_call 65; first | (with_reducible refine (hn6 _).mono ?_; rintro e w2 ⟨rfl, hb2⟩; have z7 := blk_cell (box_at hb2) 7) | (with_reducible refine (hn7 _).mono ?_; rintro e w3 ⟨rfl, hb3⟩))
    all_goals go_ret
    all_goals exact ⟨2, rfl, ⟨by rw [H.out]; rfl, by rw [H.out]; unfold rightE; first | rfl | (rw [if_pos (show k < 1 by omega)]) | (rw [if_neg (show ¬ k < 1 by omega), if_pos (show 4 < k by omega)]) | (rw [if_neg (show ¬ k < 1 by omega), if_neg (show ¬ 4 < k by omega)]; rfl)⟩, by first | exact ad_ _ _ _ | exact below_then (ad_ _ _ _) (ad_ _ _ _).size hb2 | exact below_then (below_then (ad_ _ _ _) (ad_ _ _ _).size hb2) (below_then (ad_ _ _ _) (ad_ _ _ _).size hb2).size hb3⟩
  · skip
    by_cases k4 : 4 < k
    · skip
      have H : Hd (r = false) := ⟨by rw [hr]; clear hr hn6 hn7; first | (simp [okN, *]; done) | (simp [okN, *]; omega) | (simp [okN, *]; intros; omega)⟩
      clear hr
      go_enter Tryz.func114, Tryz.ntmps114
      go_wp2
      go_quiet (fail)
      go_wp2_with (go_at_call 65; first | (with_reducible refine (hn6 _).mono ?_; rintro e w2 ⟨rfl, hb2⟩; have z7 := blk_cell (box_at hb2) 7) | (with_reducible refine (hn7 _).mono ?_; rintro e w3 ⟨rfl, hb3⟩))
      all_goals go_ret
      all_goals exact ⟨2, rfl, ⟨by rw [H.out]; rfl, by rw [H.out]; unfold rightE; first | rfl | (rw [if_pos (show k < 1 by omega)]) | (rw [if_neg (show ¬ k < 1 by omega), if_pos (show 4 < k by omega)]) | (rw [if_neg (show ¬ k < 1 by omega), if_neg (show ¬ 4 < k by omega)]; rfl)⟩, by first | exact ad_ _ _ _ | exact below_then (ad_ _ _ _) (ad_ _ _ _).size hb2 | exact below_then (below_then (ad_ _ _ _) (ad_ _ _ _).size hb2) (below_then (ad_ _ _ _) (ad_ _ _ _).size hb2).size hb3⟩
    · skip
      by_cases k3 : k = 3
      · subst k3
        by_cases m1 : m = 1
        · subst m1
          cases sl with
          | true =>
            have H : Hd (r = false) := ⟨by rw [hr]; clear hr hn6 hn7; first | (simp [okN, *]; done) | (simp [okN, *]; omega) | (simp [okN, *]; intros; omega)⟩
            clear hr
            go_enter Tryz.func114, Tryz.ntmps114
            go_wp2
            go_quiet (fail)
            go_wp2_with (go_at_call 65; first | (with_reducible refine (hn6 _).mono ?_; rintro e w2 ⟨rfl, hb2⟩; have z7 := blk_cell (box_at hb2) 7) | (with_reducible refine (hn7 _).mono ?_; rintro e w3 ⟨rfl, hb3⟩))
            all_goals go_ret
            all_goals exact ⟨1, rfl, ⟨by rw [H.out]; rfl, by rw [H.out]; unfold rightE; first | rfl | (rw [if_pos (show k < 1 by omega)]) | (rw [if_neg (show ¬ k < 1 by omega), if_pos (show 4 < k by omega)]) | (rw [if_neg (show ¬ k < 1 by omega), if_neg (show ¬ 4 < k by omega)]; rfl)⟩, by first | exact ad_ _ _ _ | exact below_then (ad_ _ _ _) (ad_ _ _ _).size hb2 | exact below_then (below_then (ad_ _ _ _) (ad_ _ _ _).size hb2) (below_then (ad_ _ _ _) (ad_ _ _ _).size hb2).size hb3⟩
          | false =>
            cases e7 : wt.toList.isEmpty with
            | true =>
              cases e6 : nm.toList.isEmpty with
              | true =>
                cases g6 : namedW nm with
                | true =>
                  rw [g6] at hn6
                  cases g7 : namedW wt with
                  | true =>
                    rw [g7] at hn7
                    have H : Hd (r = true) := ⟨by rw [hr]; clear hr hn6 hn7; first | (simp [okN, *]; done) | (simp [okN, *]; omega) | (simp [okN, *]; intros; omega)⟩
                    clear hr
                    go_enter Tryz.func114, Tryz.ntmps114
                    go_wp2
                    go_quiet (fail)
                    go_wp2_with (go_at_call 65; first | (with_reducible refine (hn6 _).mono ?_; rintro e w2 ⟨rfl, hb2⟩; have z7 := blk_cell (box_at hb2) 7) | (with_reducible refine (hn7 _).mono ?_; rintro e w3 ⟨rfl, hb3⟩))
                    all_goals go_ret
                    all_goals exact ⟨0, rfl, ⟨by rw [H.out]; rfl, by rw [H.out]; unfold rightE; first | rfl | (rw [if_pos (show k < 1 by omega)]) | (rw [if_neg (show ¬ k < 1 by omega), if_pos (show 4 < k by omega)]) | (rw [if_neg (show ¬ k < 1 by omega), if_neg (show ¬ 4 < k by omega)]; rfl)⟩, by first | exact ad_ _ _ _ | exact below_then (ad_ _ _ _) (ad_ _ _ _).size hb2 | exact below_then (below_then (ad_ _ _ _) (ad_ _ _ _).size hb2) (below_then (ad_ _ _ _) (ad_ _ _ _).size hb2).size hb3⟩
                  | false =>
                    rw [g7] at hn7
                    have H : Hd (r = false) := ⟨by rw [hr]; clear hr hn6 hn7; first | (simp [okN, *]; done) | (simp [okN, *]; omega) | (simp [okN, *]; intros; omega)⟩
                    clear hr
                    go_enter Tryz.func114, Tryz.ntmps114
                    go_wp2
                    go_quiet (fail)
                    go_wp2_with (go_at_call 65; first | (with_reducible refine (hn6 _).mono ?_; rintro e w2 ⟨rfl, hb2⟩; have z7 := blk_cell (box_at hb2) 7) | (with_reducible refine (hn7 _).mono ?_; rintro e w3 ⟨rfl, hb3⟩))
                    all_goals go_ret
                    all_goals exact ⟨1, rfl, ⟨by rw [H.out]; rfl, by rw [H.out]; unfold rightE; first | rfl | (rw [if_pos (show k < 1 by omega)]) | (rw [if_neg (show ¬ k < 1 by omega), if_pos (show 4 < k by omega)]) | (rw [if_neg (show ¬ k < 1 by omega), if_neg (show ¬ 4 < k by omega)]; rfl)⟩, by first | exact ad_ _ _ _ | exact below_then (ad_ _ _ _) (ad_ _ _ _).size hb2 | exact below_then (below_then (ad_ _ _ _) (ad_ _ _ _).size hb2) (below_then (ad_ _ _ _) (ad_ _ _ _).size hb2).size hb3⟩
                | false =>
                  rw [g6] at hn6
                  have H : Hd (r = false) := ⟨by rw [hr]; clear hr hn6 hn7; first | (simp [okN, *]; done) | (simp [okN, *]; omega) | (simp [okN, *]; intros; omega)⟩
                  clear hr
                  go_enter Tryz.func114, Tryz.ntmps114
                  go_wp2
                  go_quiet (fail)
                  go_wp2_with (go_at_call 65; first | (with_reducible refine (hn6 _).mono ?_; rintro e w2 ⟨rfl, hb2⟩; have z7 := blk_cell (box_at hb2) 7) | (with_reducible refine (hn7 _).mono ?_; rintro e w3 ⟨rfl, hb3⟩))
                  all_goals go_ret
                  all_goals exact ⟨1, rfl, ⟨by rw [H.out]; rfl, by rw [H.out]; unfold rightE; first | rfl | (rw [if_pos (show k < 1 by omega)]) | (rw [if_neg (show ¬ k < 1 by omega), if_pos (show 4 < k by omega)]) | (rw [if_neg (show ¬ k < 1 by omega), if_neg (show ¬ 4 < k by omega)]; rfl)⟩, by first | exact ad_ _ _ _ | exact below_then (ad_ _ _ _) (ad_ _ _ _).size hb2 | exact below_then (below_then (ad_ _ _ _) (ad_ _ _ _).size hb2) (below_then (ad_ _ _ _) (ad_ _ _ _).size hb2).size hb3⟩
              | false =>
                have H : Hd (r = false) := ⟨by rw [hr]; clear hr hn6 hn7; first | (simp [okN, *]; done) | (simp [okN, *]; omega) | (simp [okN, *]; intros; omega)⟩
                clear hr
                go_enter Tryz.func114, Tryz.ntmps114
                go_wp2
                go_quiet (fail)
                go_wp2_with (go_at_call 65; first | (with_reducible refine (hn6 _).mono ?_; rintro e w2 ⟨rfl, hb2⟩; have z7 := blk_cell (box_at hb2) 7) | (with_reducible refine (hn7 _).mono ?_; rintro e w3 ⟨rfl, hb3⟩))
                all_goals go_ret
                all_goals exact ⟨1, rfl, ⟨by rw [H.out]; rfl, by rw [H.out]; unfold rightE; first | rfl | (rw [if_pos (show k < 1 by omega)]) | (rw [if_neg (show ¬ k < 1 by omega), if_pos (show 4 < k by omega)]) | (rw [if_neg (show ¬ k < 1 by omega), if_neg (show ¬ 4 < k by omega)]; rfl)⟩, by first | exact ad_ _ _ _ | exact below_then (ad_ _ _ _) (ad_ _ _ _).size hb2 | exact below_then (below_then (ad_ _ _ _) (ad_ _ _ _).size hb2) (below_then (ad_ _ _ _) (ad_ _ _ _).size hb2).size hb3⟩
            | false =>
              have H : Hd (r = false) := ⟨by rw [hr]; clear hr hn6 hn7; first | (simp [okN, *]; done) | (simp [okN, *]; omega) | (simp [okN, *]; intros; omega)⟩
              clear hr
              go_enter Tryz.func114, Tryz.ntmps114
              go_wp2
              go_quiet (fail)
              go_wp2_with (go_at_call 65; first | (with_reducible refine (hn6 _).mono ?_; rintro e w2 ⟨rfl, hb2⟩; have z7 := blk_cell (box_at hb2) 7) | (with_reducible refine (hn7 _).mono ?_; rintro e w3 ⟨rfl, hb3⟩))
              all_goals go_ret
              all_goals exact ⟨1, rfl, ⟨by rw [H.out]; rfl, by rw [H.out]; unfold rightE; first | rfl | (rw [if_pos (show k < 1 by omega)]) | (rw [if_neg (show ¬ k < 1 by omega), if_pos (show 4 < k by omega)]) | (rw [if_neg (show ¬ k < 1 by omega), if_neg (show ¬ 4 < k by omega)]; rfl)⟩, by first | exact ad_ _ _ _ | exact below_then (ad_ _ _ _) (ad_ _ _ _).size hb2 | exact below_then (below_then (ad_ _ _ _) (ad_ _ _ _).size hb2) (below_then (ad_ _ _ _) (ad_ _ _ _).size hb2).size hb3⟩
        · have r1 : (m == 1) = false := by simpa using m1
          by_cases m2 : m = 2
          · subst m2
            cases sl with
            | true =>
              have H : Hd (r = false) := ⟨by rw [hr]; clear hr hn6 hn7; first | (simp [okN, *]; done) | (simp [okN, *]; omega) | (simp [okN, *]; intros; omega)⟩
              clear hr
              go_enter Tryz.func114, Tryz.ntmps114
              go_wp2
              go_quiet (fail)
              go_wp2_with (go_at_call 65; first | (with_reducible refine (hn6 _).mono ?_; rintro e w2 ⟨rfl, hb2⟩; have z7 := blk_cell (box_at hb2) 7) | (with_reducible refine (hn7 _).mono ?_; rintro e w3 ⟨rfl, hb3⟩))
              all_goals go_ret
              all_goals exact ⟨1, rfl, ⟨by rw [H.out]; rfl, by rw [H.out]; unfold rightE; first | rfl | (rw [if_pos (show k < 1 by omega)]) | (rw [if_neg (show ¬ k < 1 by omega), if_pos (show 4 < k by omega)]) | (rw [if_neg (show ¬ k < 1 by omega), if_neg (show ¬ 4 < k by omega)]; rfl)⟩, by first | exact ad_ _ _ _ | exact below_then (ad_ _ _ _) (ad_ _ _ _).size hb2 | exact below_then (below_then (ad_ _ _ _) (ad_ _ _ _).size hb2) (below_then (ad_ _ _ _) (ad_ _ _ _).size hb2).size hb3⟩
            | false =>
              cases e7 : wt.toList.isEmpty with
              | true =>
                cases e6 : nm.toList.isEmpty with
                | true =>
                  cases g6 : namedW nm with
                  | true =>
                    rw [g6] at hn6
                    cases g7 : namedW wt with
                    | true =>
                      rw [g7] at hn7
                      have H : Hd (r = true) := ⟨by rw [hr]; clear hr hn6 hn7; first | (simp [okN, *]; done) | (simp [okN, *]; omega) | (simp [okN, *]; intros; omega)⟩
                      clear hr
                      go_enter Tryz.func114, Tryz.ntmps114
                      go_wp2
                      go_quiet (fail)
                      go_wp2_with (go_at_call 65; first | (with_reducible refine (hn6 _).mono ?_; rintro e w2 ⟨rfl, hb2⟩; have z7 := blk_cell (box_at hb2) 7) | (with_reducible refine (hn7 _).mono ?_; rintro e w3 ⟨rfl, hb3⟩))
                      all_goals go_ret
                      all_goals exact ⟨0, rfl, ⟨by rw [H.out]; rfl, by rw [H.out]; unfold rightE; first | rfl | (rw [if_pos (show k < 1 by omega)]) | (rw [if_neg (show ¬ k < 1 by omega), if_pos (show 4 < k by omega)]) | (rw [if_neg (show ¬ k < 1 by omega), if_neg (show ¬ 4 < k by omega)]; rfl)⟩, by first | exact ad_ _ _ _ | exact below_then (ad_ _ _ _) (ad_ _ _ _).size hb2 | exact below_then (below_then (ad_ _ _ _) (ad_ _ _ _).size hb2) (below_then (ad_ _ _ _) (ad_ _ _ _).size hb2).size hb3⟩
                    | false =>
                      rw [g7] at hn7
                      have H : Hd (r = false) := ⟨by rw [hr]; clear hr hn6 hn7; first | (simp [okN, *]; done) | (simp [okN, *]; omega) | (simp [okN, *]; intros; omega)⟩
                      clear hr
                      go_enter Tryz.func114, Tryz.ntmps114
                      go_wp2
                      go_quiet (fail)
                      go_wp2_with (go_at_call 65; first | (with_reducible refine (hn6 _).mono ?_; rintro e w2 ⟨rfl, hb2⟩; have z7 := blk_cell (box_at hb2) 7) | (with_reducible refine (hn7 _).mono ?_; rintro e w3 ⟨rfl, hb3⟩))
                      all_goals go_ret
                      all_goals exact ⟨1, rfl, ⟨by rw [H.out]; rfl, by rw [H.out]; unfold rightE; first | rfl | (rw [if_pos (show k < 1 by omega)]) | (rw [if_neg (show ¬ k < 1 by omega), if_pos (show 4 < k by omega)]) | (rw [if_neg (show ¬ k < 1 by omega), if_neg (show ¬ 4 < k by omega)]; rfl)⟩, by first | exact ad_ _ _ _ | exact below_then (ad_ _ _ _) (ad_ _ _ _).size hb2 | exact below_then (below_then (ad_ _ _ _) (ad_ _ _ _).size hb2) (below_then (ad_ _ _ _) (ad_ _ _ _).size hb2).size hb3⟩
                  | false =>
                    rw [g6] at hn6
                    have H : Hd (r = false) := ⟨by rw [hr]; clear hr hn6 hn7; first | (simp [okN, *]; done) | (simp [okN, *]; omega) | (simp [okN, *]; intros; omega)⟩
                    clear hr
                    go_enter Tryz.func114, Tryz.ntmps114
                    go_wp2
                    go_quiet (fail)
                    go_wp2_with (go_at_call 65; first | (with_reducible refine (hn6 _).mono ?_; rintro e w2 ⟨rfl, hb2⟩; have z7 := blk_cell (box_at hb2) 7) | (with_reducible refine (hn7 _).mono ?_; rintro e w3 ⟨rfl, hb3⟩))
                    all_goals go_ret
                    all_goals exact ⟨1, rfl, ⟨by rw [H.out]; rfl, by rw [H.out]; unfold rightE; first | rfl | (rw [if_pos (show k < 1 by omega)]) | (rw [if_neg (show ¬ k < 1 by omega), if_pos (show 4 < k by omega)]) | (rw [if_neg (show ¬ k < 1 by omega), if_neg (show ¬ 4 < k by omega)]; rfl)⟩, by first | exact ad_ _ _ _ | exact below_then (ad_ _ _ _) (ad_ _ _ _).size hb2 | exact below_then (below_then (ad_ _ _ _) (ad_ _ _ _).size hb2) (below_then (ad_ _ _ _) (ad_ _ _ _).size hb2).size hb3⟩
                | false =>
                  have H : Hd (r = false) := ⟨by rw [hr]; clear hr hn6 hn7; first | (simp [okN, *]; done) | (simp [okN, *]; omega) | (simp [okN, *]; intros; omega)⟩
                  clear hr
                  go_enter Tryz.func114, Tryz.ntmps114
                  go_wp2
                  go_quiet (fail)
                  go_wp2_with (go_at_call 65; first | (with_reducible refine (hn6 _).mono ?_; rintro e w2 ⟨rfl, hb2⟩; have z7 := blk_cell (box_at hb2) 7) | (with_reducible refine (hn7 _).mono ?_; rintro e w3 ⟨rfl, hb3⟩))
                  all_goals go_ret
                  all_goals exact ⟨1, rfl, ⟨by rw [H.out]; rfl, by rw [H.out]; unfold rightE; first | rfl | (rw [if_pos (show k < 1 by omega)]) | (rw [if_neg (show ¬ k < 1 by omega), if_pos (show 4 < k by omega)]) | (rw [if_neg (show ¬ k < 1 by omega), if_neg (show ¬ 4 < k by omega)]; rfl)⟩, by first | exact ad_ _ _ _ | exact below_then (ad_ _ _ _) (ad_ _ _ _).size hb2 | exact below_then (below_then (ad_ _ _ _) (ad_ _ _ _).size hb2) (below_then (ad_ _ _ _) (ad_ _ _ _).size hb2).size hb3⟩
              | false =>
                have H : Hd (r = false) := ⟨by rw [hr]; clear hr hn6 hn7; first | (simp [okN, *]; done) | (simp [okN, *]; omega) | (simp [okN, *]; intros; omega)⟩
                clear hr
                go_enter Tryz.func114, Tryz.ntmps114
                go_wp2
                go_quiet (fail)
                go_wp2_with (go_at_call 65; first | (with_reducible refine (hn6 _).mono ?_; rintro e w2 ⟨rfl, hb2⟩; have z7 := blk_cell (box_at hb2) 7) | (with_reducible refine (hn7 _).mono ?_; rintro e w3 ⟨rfl, hb3⟩))
                all_goals go_ret
                all_goals exact ⟨1, rfl, ⟨by rw [H.out]; rfl, by rw [H.out]; unfold rightE; first | rfl | (rw [if_pos (show k < 1 by omega)]) | (rw [if_neg (show ¬ k < 1 by omega), if_pos (show 4 < k by omega)]) | (rw [if_neg (show ¬ k < 1 by omega), if_neg (show ¬ 4 < k by omega)]; rfl)⟩, by first | exact ad_ _ _ _ | exact below_then (ad_ _ _ _) (ad_ _ _ _).size hb2 | exact below_then (below_then (ad_ _ _ _) (ad_ _ _ _).size hb2) (below_then (ad_ _ _ _) (ad_ _ _ _).size hb2).size hb3⟩
          · have r2 : (m == 2) = false := by simpa using m2
            have H : Hd (r = false) := ⟨by rw [hr]; clear hr hn6 hn7; first | (simp [okN, *]; done) | (simp [okN, *]; omega) | (simp [okN, *]; intros; omega)⟩
            clear hr
            go_enter Tryz.func114, Tryz.ntmps114
            go_wp2
            go_quiet (fail)
            go_wp2_with (go_at_call 65; first | (with_reducible refine (hn6 _).mono ?_; rintro e w2 ⟨rfl, hb2⟩; have z7 := blk_cell (box_at hb2) 7) | (with_reducible refine (hn7 _).mono ?_; rintro e w3 ⟨rfl, hb3⟩))
            all_goals go_ret
            all_goals exact ⟨1, rfl, ⟨by rw [H.out]; rfl, by rw [H.out]; unfold rightE; first | rfl | (rw [if_pos (show k < 1 by omega)]) | (rw [if_neg (show ¬ k < 1 by omega), if_pos (show 4 < k by omega)]) | (rw [if_neg (show ¬ k < 1 by omega), if_neg (show ¬ 4 < k by omega)]; rfl)⟩, by first | exact ad_ _ _ _ | exact below_then (ad_ _ _ _) (ad_ _ _ _).size hb2 | exact below_then (below_then (ad_ _ _ _) (ad_ _ _ _).size hb2) (below_then (ad_ _ _ _) (ad_ _ _ _).size hb2).size hb3⟩
      · have r3 : (k == 3) = false := by simpa using k3
        by_cases m0 : m = 0
        · subst m0
          by_cases k2 : k = 2
          · subst k2
            cases sl with
            | true =>
              cases e6 : nm.toList.isEmpty with
              | true =>
                cases g6 : namedW nm with
                | true =>
                  rw [g6] at hn6
                  cases g7 : namedW wt with
                  | true =>
                    rw [g7] at hn7
                    have H : Hd (r = true) := ⟨by rw [hr]; clear hr hn6 hn7; first | (simp [okN, *]; done) | (simp [okN, *]; omega) | (simp [okN, *]; intros; omega)⟩
                    clear hr
                    go_enter Tryz.func114, Tryz.ntmps114
                    go_wp2
                    go_quiet (fail)
                    go_wp2_with (go_at_call 65; first | (with_reducible refine (hn6 _).mono ?_; rintro e w2 ⟨rfl, hb2⟩; have z7 := blk_cell (box_at hb2) 7) | (with_reducible refine (hn7 _).mono ?_; rintro e w3 ⟨rfl, hb3⟩))
                    all_goals go_ret
                    all_goals exact ⟨0, rfl, ⟨by rw [H.out]; rfl, by rw [H.out]; unfold rightE; first | rfl | (rw [if_pos (show k < 1 by omega)]) | (rw [if_neg (show ¬ k < 1 by omega), if_pos (show 4 < k by omega)]) | (rw [if_neg (show ¬ k < 1 by omega), if_neg (show ¬ 4 < k by omega)]; rfl)⟩, by first | exact ad_ _ _ _ | exact below_then (ad_ _ _ _) (ad_ _ _ _).size hb2 | exact below_then (below_then (ad_ _ _ _) (ad_ _ _ _).size hb2) (below_then (ad_ _ _ _) (ad_ _ _ _).size hb2).size hb3⟩
                  | false =>
                    rw [g7] at hn7
                    have H : Hd (r = false) := ⟨by rw [hr]; clear hr hn6 hn7; first | (simp [okN, *]; done) | (simp [okN, *]; omega) | (simp [okN, *]; intros; omega)⟩
                    clear hr
                    go_enter Tryz.func114, Tryz.ntmps114
                    go_wp2
                    go_quiet (fail)
                    go_wp2_with (go_at_call 65; first | (with_reducible refine (hn6 _).mono ?_; rintro e w2 ⟨rfl, hb2⟩; have z7 := blk_cell (box_at hb2) 7) | (with_reducible refine (hn7 _).mono ?_; rintro e w3 ⟨rfl, hb3⟩))
                    all_goals go_ret
                    all_goals exact ⟨1, rfl, ⟨by rw [H.out]; rfl, by rw [H.out]; unfold rightE; first | rfl | (rw [if_pos (show k < 1 by omega)]) | (rw [if_neg (show ¬ k < 1 by omega), if_pos (show 4 < k by omega)]) | (rw [if_neg (show ¬ k < 1 by omega), if_neg (show ¬ 4 < k by omega)]; rfl)⟩, by first | exact ad_ _ _ _ | exact below_then (ad_ _ _ _) (ad_ _ _ _).size hb2 | exact below_then (below_then (ad_ _ _ _) (ad_ _ _ _).size hb2) (below_then (ad_ _ _ _) (ad_ _ _ _).size hb2).size hb3⟩
                | false =>
                  rw [g6] at hn6
                  have H : Hd (r = false) := ⟨by rw [hr]; clear hr hn6 hn7; first | (simp [okN, *]; done) | (simp [okN, *]; omega) | (simp [okN, *]; intros; omega)⟩
                  clear hr
                  go_enter Tryz.func114, Tryz.ntmps114
                  go_wp2
                  go_quiet (fail)
                  go_wp2_with (go_at_call 65; first | (with_reducible refine (hn6 _).mono ?_; rintro e w2 ⟨rfl, hb2⟩; have z7 := blk_cell (box_at hb2) 7) | (with_reducible refine (hn7 _).mono ?_; rintro e w3 ⟨rfl, hb3⟩))
                  all_goals go_ret
                  all_goals exact ⟨1, rfl, ⟨by rw [H.out]; rfl, by rw [H.out]; unfold rightE; first | rfl | (rw [if_pos (show k < 1 by omega)]) | (rw [if_neg (show ¬ k < 1 by omega), if_pos (show 4 < k by omega)]) | (rw [if_neg (show ¬ k < 1 by omega), if_neg (show ¬ 4 < k by omega)]; rfl)⟩, by first | exact ad_ _ _ _ | exact below_then (ad_ _ _ _) (ad_ _ _ _).size hb2 | exact below_then (below_then (ad_ _ _ _) (ad_ _ _ _).size hb2) (below_then (ad_ _ _ _) (ad_ _ _ _).size hb2).size hb3⟩
              | false =>
                cases g6 : namedW nm with
                | true =>
                  rw [g6] at hn6
                  cases g7 : namedW wt with
                  | true =>
                    rw [g7] at hn7
                    have H : Hd (r = true) := ⟨by rw [hr]; clear hr hn6 hn7; first | (simp [okN, *]; done) | (simp [okN, *]; omega) | (simp [okN, *]; intros; omega)⟩
                    clear hr
                    go_enter Tryz.func114, Tryz.ntmps114
                    go_wp2
                    go_quiet (fail)
                    go_wp2_with (go_at_call 65; first | (with_reducible refine (hn6 _).mono ?_; rintro e w2 ⟨rfl, hb2⟩; have z7 := blk_cell (box_at hb2) 7) | (with_reducible refine (hn7 _).mono ?_; rintro e w3 ⟨rfl, hb3⟩))
                    all_goals go_ret
                    all_goals exact ⟨0, rfl, ⟨by rw [H.out]; rfl, by rw [H.out]; unfold rightE; first | rfl | (rw [if_pos (show k < 1 by omega)]) | (rw [if_neg (show ¬ k < 1 by omega), if_pos (show 4 < k by omega)]) | (rw [if_neg (show ¬ k < 1 by omega), if_neg (show ¬ 4 < k by omega)]; rfl)⟩, by first | exact ad_ _ _ _ | exact below_then (ad_ _ _ _) (ad_ _ _ _).size hb2 | exact below_then (below_then (ad_ _ _ _) (ad_ _ _ _).size hb2) (below_then (ad_ _ _ _) (ad_ _ _ _).size hb2).size hb3⟩
                  | false =>
                    rw [g7] at hn7
                    have H : Hd (r = false) := ⟨by rw [hr]; clear hr hn6 hn7; first | (simp [okN, *]; done) | (simp [okN, *]; omega) | (simp [okN, *]; intros; omega)⟩
                    clear hr
                    go_enter Tryz.func114, Tryz.ntmps114
                    go_wp2
                    go_quiet (fail)
                    go_wp2_with (go_at_call 65; first | (with_reducible refine (hn6 _).mono ?_; rintro e w2 ⟨rfl, hb2⟩; have z7 := blk_cell (box_at hb2) 7) | (with_reducible refine (hn7 _).mono ?_; rintro e w3 ⟨rfl, hb3⟩))
                    all_goals go_ret
                    all_goals exact ⟨1, rfl, ⟨by rw [H.out]; rfl, by rw [H.out]; unfold rightE; first | rfl | (rw [if_pos (show k < 1 by omega)]) | (rw [if_neg (show ¬ k < 1 by omega), if_pos (show 4 < k by omega)]) | (rw [if_neg (show ¬ k < 1 by omega), if_neg (show ¬ 4 < k by omega)]; rfl)⟩, by first | exact ad_ _ _ _ | exact below_then (ad_ _ _ _) (ad_ _ _ _).size hb2 | exact below_then (below_then (ad_ _ _ _) (ad_ _ _ _).size hb2) (below_then (ad_ _ _ _) (ad_ _ _ _).size hb2).size hb3⟩
                | false =>
                  rw [g6] at hn6
                  have H : Hd (r = false) := ⟨by rw [hr]; clear hr hn6 hn7; first | (simp [okN, *]; done) | (simp [okN, *]; omega) | (simp [okN, *]; intros; omega)⟩
                  clear hr
                  go_enter Tryz.func114, Tryz.ntmps114
                  go_wp2
                  go_quiet (fail)
                  go_wp2_with (go_at_call 65; first | (with_reducible refine (hn6 _).mono ?_; rintro e w2 ⟨rfl, hb2⟩; have z7 := blk_cell (box_at hb2) 7) | (with_reducible refine (hn7 _).mono ?_; rintro e w3 ⟨rfl, hb3⟩))
                  all_goals go_ret
                  all_goals exact ⟨1, rfl, ⟨by rw [H.out]; rfl, by rw [H.out]; unfold rightE; first | rfl | (rw [if_pos (show k < 1 by omega)]) | (rw [if_neg (show ¬ k < 1 by omega), if_pos (show 4 < k by omega)]) | (rw [if_neg (show ¬ k < 1 by omega), if_neg (show ¬ 4 < k by omega)]; rfl)⟩, by first | exact ad_ _ _ _ | exact below_then (ad_ _ _ _) (ad_ _ _ _).size hb2 | exact below_then (below_then (ad_ _ _ _) (ad_ _ _ _).size hb2) (below_then (ad_ _ _ _) (ad_ _ _ _).size hb2).size hb3⟩
            | false =>
              cases e6 : nm.toList.isEmpty with
              | true =>
                cases g6 : namedW nm with
                | true =>
                  rw [g6] at hn6
                  cases g7 : namedW wt with
                  | true =>
                    rw [g7] at hn7
                    have H : Hd (r = true) := ⟨by rw [hr]; clear hr hn6 hn7; first | (simp [okN, *]; done) | (simp [okN, *]; omega) | (simp [okN, *]; intros; omega)⟩
                    clear hr
                    go_enter Tryz.func114, Tryz.ntmps114
                    go_wp2
                    go_quiet (fail)
                    go_wp2_with (go_at_call 65; first | (with_reducible refine (hn6 _).mono ?_; rintro e w2 ⟨rfl, hb2⟩; have z7 := blk_cell (box_at hb2) 7) | (with_reducible refine (hn7 _).mono ?_; rintro e w3 ⟨rfl, hb3⟩))
                    all_goals go_ret
                    all_goals exact ⟨0, rfl, ⟨by rw [H.out]; rfl, by rw [H.out]; unfold rightE; first | rfl | (rw [if_pos (show k < 1 by omega)]) | (rw [if_neg (show ¬ k < 1 by omega), if_pos (show 4 < k by omega)]) | (rw [if_neg (show ¬ k < 1 by omega), if_neg (show ¬ 4 < k by omega)]; rfl)⟩, by first | exact ad_ _ _ _ | exact below_then (ad_ _ _ _) (ad_ _ _ _).size hb2 | exact below_then (below_then (ad_ _ _ _) (ad_ _ _ _).size hb2) (below_then (ad_ _ _ _) (ad_ _ _ _).size hb2).size hb3⟩
                  | false =>
                    rw [g7] at hn7
                    have H : Hd (r = false) := ⟨by rw [hr]; clear hr hn6 hn7; first | (simp [okN, *]; done) | (simp [okN, *]; omega) | (simp [okN, *]; intros; omega)⟩
                    clear hr
                    go_enter Tryz.func114, Tryz.ntmps114
                    go_wp2
                    go_quiet (fail)
                    go_wp2_with (go_at_call 65; first | (with_reducible refine (hn6 _).mono ?_; rintro e w2 ⟨rfl, hb2⟩; have z7 := blk_cell (box_at hb2) 7) | (with_reducible refine (hn7 _).mono ?_; rintro e w3 ⟨rfl, hb3⟩))
                    all_goals go_ret
                    all_goals exact ⟨1, rfl, ⟨by rw [H.out]; rfl, by rw [H.out]; unfold rightE; first | rfl | (rw [if_pos (show k < 1 by omega)]) | (rw [if_neg (show ¬ k < 1 by omega), if_pos (show 4 < k by omega)]) | (rw [if_neg (show ¬ k < 1 by omega), if_neg (show ¬ 4 < k by omega)]; rfl)⟩, by first | exact ad_ _ _ _ | exact below_then (ad_ _ _ _) (ad_ _ _ _).size hb2 | exact below_then (below_then (ad_ _ _ _) (ad_ _ _ _).size hb2) (below_then (ad_ _ _ _) (ad_ _ _ _).size hb2).size hb3⟩
                | false =>
                  rw [g6] at hn6
                  have H : Hd (r = false) := ⟨by rw [hr]; clear hr hn6 hn7; first | (simp [okN, *]; done) | (simp [okN, *]; omega) | (simp [okN, *]; intros; omega)⟩
                  clear hr
                  go_enter Tryz.func114, Tryz.ntmps114
                  go_wp2
                  go_quiet (fail)
                  go_wp2_with (go_at_call 65; first | (with_reducible refine (hn6 _).mono ?_; rintro e w2 ⟨rfl, hb2⟩; have z7 := blk_cell (box_at hb2) 7) | (with_reducible refine (hn7 _).mono ?_; rintro e w3 ⟨rfl, hb3⟩))
                  all_goals go_ret
                  all_goals exact ⟨1, rfl, ⟨by rw [H.out]; rfl, by rw [H.out]; unfold rightE; first | rfl | (rw [if_pos (show k < 1 by omega)]) | (rw [if_neg (show ¬ k < 1 by omega), if_pos (show 4 < k by omega)]) | (rw [if_neg (show ¬ k < 1 by omega), if_neg (show ¬ 4 < k by omega)]; rfl)⟩, by first | exact ad_ _ _ _ | exact below_then (ad_ _ _ _) (ad_ _ _ _).size hb2 | exact below_then (below_then (ad_ _ _ _) (ad_ _ _ _).size hb2) (below_then (ad_ _ _ _) (ad_ _ _ _).size hb2).size hb3⟩
              | false =>
                have H : Hd (r = false) := ⟨by rw [hr]; clear hr hn6 hn7; first | (simp [okN, *]; done) | (simp [okN, *]; omega) | (simp [okN, *]; intros; omega)⟩
                clear hr
                go_enter Tryz.func114, Tryz.ntmps114
                go_wp2
                go_quiet (fail)
                go_wp2_with (go_at_call 65; first | (with_reducible refine (hn6 _).mono ?_; rintro e w2 ⟨rfl, hb2⟩; have z7 := blk_cell (box_at hb2) 7) | (with_reducible refine (hn7 _).mono ?_; rintro e w3 ⟨rfl, hb3⟩))
                all_goals go_ret
                all_goals exact ⟨1, rfl, ⟨by rw [H.out]; rfl, by rw [H.out]; unfold rightE; first | rfl | (rw [if_pos (show k < 1 by omega)]) | (rw [if_neg (show ¬ k < 1 by omega), if_pos (show 4 < k by omega)]) | (rw [if_neg (show ¬ k < 1 by omega), if_neg (show ¬ 4 < k by omega)]; rfl)⟩, by first | exact ad_ _ _ _ | exact below_then (ad_ _ _ _) (ad_ _ _ _).size hb2 | exact below_then (below_then (ad_ _ _ _) (ad_ _ _ _).size hb2) (below_then (ad_ _ _ _) (ad_ _ _ _).size hb2).size hb3⟩
          · have r2 : (k == 2) = false := by simpa using k2
            cases sl with
            | true =>
              have H : Hd (r = false) := ⟨by rw [hr]; clear hr hn6 hn7; first | (simp [okN, *]; done) | (simp [okN, *]; omega) | (simp [okN, *]; intros; omega)⟩
              clear hr
              go_enter Tryz.func114, Tryz.ntmps114
              go_wp2
              go_quiet (fail)
              go_wp2_with (go_at_call 65; first | (with_reducible refine (hn6 _).mono ?_; rintro e w2 ⟨rfl, hb2⟩; have z7 := blk_cell (box_at hb2) 7) | (with_reducible refine (hn7 _).mono ?_; rintro e w3 ⟨rfl, hb3⟩))
              all_goals go_ret
              all_goals exact ⟨1, rfl, ⟨by rw [H.out]; rfl, by rw [H.out]; unfold rightE; first | rfl | (rw [if_pos (show k < 1 by omega)]) | (rw [if_neg (show ¬ k < 1 by omega), if_pos (show 4 < k by omega)]) | (rw [if_neg (show ¬ k < 1 by omega), if_neg (show ¬ 4 < k by omega)]; rfl)⟩, by first | exact ad_ _ _ _ | exact below_then (ad_ _ _ _) (ad_ _ _ _).size hb2 | exact below_then (below_then (ad_ _ _ _) (ad_ _ _ _).size hb2) (below_then (ad_ _ _ _) (ad_ _ _ _).size hb2).size hb3⟩
            | false =>
              cases e7 : wt.toList.isEmpty with
              | true =>
                cases e6 : nm.toList.isEmpty with
                | true =>
                  cases g6 : namedW nm with
                  | true =>
                    rw [g6] at hn6
                    cases g7 : namedW wt with
                    | true =>
                      rw [g7] at hn7
                      have H : Hd (r = true) := ⟨by rw [hr]; clear hr hn6 hn7; first | (simp [okN, *]; done) | (simp [okN, *]; omega) | (simp [okN, *]; intros; omega)⟩
                      clear hr
                      go_enter Tryz.func114, Tryz.ntmps114
                      go_wp2
                      go_quiet (fail)
                      go_wp2_with (go_at_call 65; first | (with_reducible refine (hn6 _).mono ?_; rintro e w2 ⟨rfl, hb2⟩; have z7 := blk_cell (box_at hb2) 7) | (with_reducible refine (hn7 _).mono ?_; rintro e w3 ⟨rfl, hb3⟩))
                      all_goals go_ret
                      all_goals exact ⟨0, rfl, ⟨by rw [H.out]; rfl, by rw [H.out]; unfold rightE; first | rfl | (rw [if_pos (show k < 1 by omega)]) | (rw [if_neg (show ¬ k < 1 by omega), if_pos (show 4 < k by omega)]) | (rw [if_neg (show ¬ k < 1 by omega), if_neg (show ¬ 4 < k by omega)]; rfl)⟩, by first | exact ad_ _ _ _ | exact below_then (ad_ _ _ _) (ad_ _ _ _).size hb2 | exact below_then (below_then (ad_ _ _ _) (ad_ _ _ _).size hb2) (below_then (ad_ _ _ _) (ad_ _ _ _).size hb2).size hb3⟩
                    | false =>
                      rw [g7] at hn7
                      have H : Hd (r = false) := ⟨by rw [hr]; clear hr hn6 hn7; first | (simp [okN, *]; done) | (simp [okN, *]; omega) | (simp [okN, *]; intros; omega)⟩
                      clear hr
                      go_enter Tryz.func114, Tryz.ntmps114
                      go_wp2
                      go_quiet (fail)
                      go_wp2_with (go_at_call 65; first | (with_reducible refine (hn6 _).mono ?_; rintro e w2 ⟨rfl, hb2⟩; have z7 := blk_cell (box_at hb2) 7) | (with_reducible refine (hn7 _).mono ?_; rintro e w3 ⟨rfl, hb3⟩))
                      all_goals go_ret
                      all_goals exact ⟨1, rfl, ⟨by rw [H.out]; rfl, by rw [H.out]; unfold rightE; first | rfl | (rw [if_pos (show k < 1 by omega)]) | (rw [if_neg (show ¬ k < 1 by omega), if_pos (show 4 < k by omega)]) | (rw [if_neg (show ¬ k < 1 by omega), if_neg (show ¬ 4 < k by omega)]; rfl)⟩, by first | exact ad_ _ _ _ | exact below_then (ad_ _ _ _) (ad_ _ _ _).size hb2 | exact below_then (below_then (ad_ _ _ _) (ad_ _ _ _).size hb2) (below_then (ad_ _ _ _) (ad_ _ _ _).size hb2).size hb3⟩
                  | false =>
                    rw [g6] at hn6
                    have H : Hd (r = false) := ⟨by rw [hr]; clear hr hn6 hn7; first | (simp [okN, *]; done) | (simp [okN, *]; omega) | (simp [okN, *]; intros; omega)⟩
                    clear hr
                    go_enter Tryz.func114, Tryz.ntmps114
                    go_wp2
                    go_quiet (fail)
                    go_wp2_with (go_at_call 65; first | (with_reducible refine (hn6 _).mono ?_; rintro e w2 ⟨rfl, hb2⟩; have z7 := blk_cell (box_at hb2) 7) | (with_reducible refine (hn7 _).mono ?_; rintro e w3 ⟨rfl, hb3⟩))
                    all_goals go_ret
                    all_goals exact ⟨1, rfl, ⟨by rw [H.out]; rfl, by rw [H.out]; unfold rightE; first | rfl | (rw [if_pos (show k < 1 by omega)]) | (rw [if_neg (show ¬ k < 1 by omega), if_pos (show 4 < k by omega)]) | (rw [if_neg (show ¬ k < 1 by omega), if_neg (show ¬ 4 < k by omega)]; rfl)⟩, by first | exact ad_ _ _ _ | exact below_then (ad_ _ _ _) (ad_ _ _ _).size hb2 | exact below_then (below_then (ad_ _ _ _) (ad_ _ _ _).size hb2) (below_then (ad_ _ _ _) (ad_ _ _ _).size hb2).size hb3⟩
                | false =>
                  have H : Hd (r = false) := ⟨by rw [hr]; clear hr hn6 hn7; first | (simp [okN, *]; done) | (simp [okN, *]; omega) | (simp [okN, *]; intros; omega)⟩
                  clear hr
                  go_enter Tryz.func114, Tryz.ntmps114
                  go_wp2
                  go_quiet (fail)
                  go_wp2_with (go_at_call 65; first | (with_reducible refine (hn6 _).mono ?_; rintro e w2 ⟨rfl, hb2⟩; have z7 := blk_cell (box_at hb2) 7) | (with_reducible refine (hn7 _).mono ?_; rintro e w3 ⟨rfl, hb3⟩))
                  all_goals go_ret
                  all_goals exact ⟨1, rfl, ⟨by rw [H.out]; rfl, by rw [H.out]; unfold rightE; first | rfl | (rw [if_pos (show k < 1 by omega)]) | (rw [if_neg (show ¬ k < 1 by omega), if_pos (show 4 < k by omega)]) | (rw [if_neg (show ¬ k < 1 by omega), if_neg (show ¬ 4 < k by omega)]; rfl)⟩, by first | exact ad_ _ _ _ | exact below_then (ad_ _ _ _) (ad_ _ _ _).size hb2 | exact below_then (below_then (ad_ _ _ _) (ad_ _ _ _).size hb2) (below_then (ad_ _ _ _) (ad_ _ _ _).size hb2).size hb3⟩
              | false =>
                have H : Hd (r = false) := ⟨by rw [hr]; clear hr hn6 hn7; first | (simp [okN, *]; done) | (simp [okN, *]; omega) | (simp [okN, *]; intros; omega)⟩
                clear hr
                go_enter Tryz.func114, Tryz.ntmps114
                go_wp2
                go_quiet (fail)
                go_wp2_with (go_at_call 65; first | (with_reducible refine (hn6 _).mono ?_; rintro e w2 ⟨rfl, hb2⟩; have z7 := blk_cell (box_at hb2) 7) | (with_reducible refine (hn7 _).mono ?_; rintro e w3 ⟨rfl, hb3⟩))
                all_goals go_ret
                all_goals exact ⟨1, rfl, ⟨by rw [H.out]; rfl, by rw [H.out]; unfold rightE; first | rfl | (rw [if_pos (show k < 1 by omega)]) | (rw [if_neg (show ¬ k < 1 by omega), if_pos (show 4 < k by omega)]) | (rw [if_neg (show ¬ k < 1 by omega), if_neg (show ¬ 4 < k by omega)]; rfl)⟩, by first | exact ad_ _ _ _ | exact below_then (ad_ _ _ _) (ad_ _ _ _).size hb2 | exact below_then (below_then (ad_ _ _ _) (ad_ _ _ _).size hb2) (below_then (ad_ _ _ _) (ad_ _ _ _).size hb2).size hb3⟩
        · have r0 : (m == 0) = false := by simpa using m0
          by_cases m1 : m = 1
          · subst m1
            have H : Hd (r = false) := ⟨by rw [hr]; clear hr hn6 hn7; first | (simp [okN, *]; done) | (simp [okN, *]; omega) | (simp [okN, *]; intros; omega)⟩
            clear hr
            go_enter Tryz.func114, Tryz.ntmps114
            go_wp2
            go_quiet (fail)
            go_wp2_with (go_at_call 65; first | (with_reducible refine (hn6 _).mono ?_; rintro e w2 ⟨rfl, hb2⟩; have z7 := blk_cell (box_at hb2) 7) | (with_reducible refine (hn7 _).mono ?_; rintro e w3 ⟨rfl, hb3⟩))
            all_goals go_ret
            all_goals exact ⟨1, rfl, ⟨by rw [H.out]; rfl, by rw [H.out]; unfold rightE; first | rfl | (rw [if_pos (show k < 1 by omega)]) | (rw [if_neg (show ¬ k < 1 by omega), if_pos (show 4 < k by omega)]) | (rw [if_neg (show ¬ k < 1 by omega), if_neg (show ¬ 4 < k by omega)]; rfl)⟩, by first | exact ad_ _ _ _ | exact below_then (ad_ _ _ _) (ad_ _ _ _).size hb2 | exact below_then (below_then (ad_ _ _ _) (ad_ _ _ _).size hb2) (below_then (ad_ _ _ _) (ad_ _ _ _).size hb2).size hb3⟩
          · have r1 : (m == 1) = false := by simpa using m1
            by_cases m2 : m = 2
            · subst m2
              have H : Hd (r = false) := ⟨by rw [hr]; clear hr hn6 hn7; first | (simp [okN, *]; done) | (simp [okN, *]; omega) | (simp [okN, *]; intros; omega)⟩
              clear hr
              go_enter Tryz.func114, Tryz.ntmps114
              go_wp2
              go_quiet (fail)
              go_wp2_with (go_at_call 65; first | (with_reducible refine (hn6 _).mono ?_; rintro e w2 ⟨rfl, hb2⟩; have z7 := blk_cell (box_at hb2) 7) | (with_reducible refine (hn7 _).mono ?_; rintro e w3 ⟨rfl, hb3⟩))
              all_goals go_ret
              all_goals exact ⟨1, rfl, ⟨by rw [H.out]; rfl, by rw [H.out]; unfold rightE; first | rfl | (rw [if_pos (show k < 1 by omega)]) | (rw [if_neg (show ¬ k < 1 by omega), if_pos (show 4 < k by omega)]) | (rw [if_neg (show ¬ k < 1 by omega), if_neg (show ¬ 4 < k by omega)]; rfl)⟩, by first | exact ad_ _ _ _ | exact below_then (ad_ _ _ _) (ad_ _ _ _).size hb2 | exact below_then (below_then (ad_ _ _ _) (ad_ _ _ _).size hb2) (below_then (ad_ _ _ _) (ad_ _ _ _).size hb2).size hb3⟩
            · have r2 : (m == 2) = false := by simpa using m2
              have H : Hd (r = false) := ⟨by rw [hr]; clear hr hn6 hn7; first | (simp [okN, *]; done) | (simp [okN, *]; omega) | (simp [okN, *]; intros; omega)⟩
              clear hr
              go_enter Tryz.func114, Tryz.ntmps114
              go_wp2
              go_quiet (fail)
              go_wp2_with (go_at_call 65; first | (with_reducible refine (hn6 _).mono ?_; rintro e w2 ⟨rfl, hb2⟩; have z7 := blk_cell (box_at hb2) 7) | (with_reducible refine (hn7 _).mono ?_; rintro e w3 ⟨rfl, hb3⟩))
              all_goals go_ret
              all_goals exact ⟨1, rfl, ⟨by rw [H.out]; rfl, by rw [H.out]; unfold rightE; first | rfl | (rw [if_pos (show k < 1 by omega)]) | (rw [if_neg (show ¬ k < 1 by omega), if_pos (show 4 < k by omega)]) | (rw [if_neg (show ¬ k < 1 by omega), if_neg (show ¬ 4 < k by omega)]; rfl)⟩, by first | exact ad_ _ _ _ | exact below_then (ad_ _ _ _) (ad_ _ _ _).size hb2 | exact below_then (below_then (ad_ _ _ _) (ad_ _ _ _).size hb2) (below_then (ad_ _ _ _) (ad_ _ _ _).size hb2).size hb3⟩
end Go.Proofs.YtgopddjmmoohdaaGreatDoor

/- arena.New, Make. -/
set_option linter.unusedSimpArgs false
set_option linter.unusedVariables false
namespace Go.Proofs.YtgopddjmmoohdaaGreatDoor
open Go.RowKit Go.Proofs.YtgopddjmmoohdaaGreatDoorW.PrintWords Go.Proofs.YtgopddjmmoohdaaGreatDoorW.PrintLast Go.Proofs.YtgopddjmmoohdaaGreatDoor.PPlaySilent

theorem info61n : (Tryz.prog.info? 115).map (fun i => (i.zero, i.size, i.bytes)) = some (some zeroN, 9, 104) := by kernel_rfl
/-- Make. -/
def makeF (l : List S115) (k m : Int) (sl : Bool) (nm wt : ByteArray) : List S115 := if okN k m sl nm wt = true then if l.length < 128 then l ++ [⟨k, 0, 0, 0, m, sl, nm, wt, []⟩] else l else l
/-- Its answer. -/
def makeV (l : List S115) (k m : Int) (sl : Bool) (nm wt : ByteArray) : Int × Int := if okN k m sl nm wt = true then if l.length < 128 then ((l.length : Int) + 1, 0) else (0, 9) else (0, rightE k false)
theorem FoO.put {Q : Nat → Prop} {w0 ws w w1 : World} {F : Nat} {l l' : List S115} {v v1 : Value} (h : FoO Q w0 ws w F l) (hv : w.heap[F]? = some (.cells #[v] 77 (0, 0))) (hvF : some F ≠ v.ownBlock) (hN : Kd.N k115 115 w1 w0.heap.size (fun k => Q k ∧ k ≠ F) v1 l') (hB : Below w0.heap.size w0 w1) (hg : w.grownBy w1 v.ownBlock) (hvQ : ∀ k, v.ownBlock = some k → Q k) (hl : l'.length ≤ 128) :
    w1.heap[F]? = some (.cells #[v] 77 (0, 0)) ∧ FoO Q w0 ws (w1.setCell ⟨F, 0, none⟩ v1) F l' := by
  have h1 := blk_grown hv hg hvF
  refine ⟨h1, h.1, ?_, hl, (h.2.2.2.1.grown hg hvQ hB).set (.inr rfl) h.1 _ _, v1, blk_put h1 0 v1 (cs' := #[v1]) rfl, Kd.N_far hN (fun k hk => hk.2) _⟩
  have := blk_lt h1
  simpa using this
set_option maxRecDepth 100000 in
set_option maxHeartbeats 6400000 in
theorem make_any (F : Nat) (k p h s m : Int) (sl : Bool) (nm wt : ByteArray) (A : Option Addr) (n c : Nat) (l : List S115) (Q : Nat → Prop) (w0 ws w : World) (hf : FoO Q w0 ws w F l) :
    Calls Tryz.prog 63 #[.pointer (some ⟨F, 0, none⟩), .agg #[.int .i64 k, .int .i64 p, .int .i64 h, .int .i64 s, .int .i64 m, .bool sl, .string nm, .string wt, .slice A n c]] w fun e w' => e = .returned (.tuple #[.int .i64 (makeV l k m sl nm wt).1, .int .i64 (makeV l k m sl nm wt).2]) ∧ FoO Q w0 ws w' F (makeF l k m sl nm wt) := by
  have hr := right_node k p h s m sl nm wt A n c (w.alloc (.cells #[.int .i64 k, .int .i64 p, .int .i64 h, .int .i64 s, .int .i64 m, .bool sl, .string nm, .string wt, .slice A n c] 115))
  have hX0 := blk_new w (.cells #[.int .i64 k, .int .i64 p, .int .i64 h, .int .i64 s, .int .i64 m, .bool sl, .string nm, .string wt, .slice A n c] 115)
  have hBx := below_alloc (Below.refl _ w) (.cells #[.int .i64 k, .int .i64 p, .int .i64 h, .int .i64 s, .int .i64 m, .bool sl, .string nm, .string wt, .slice A n c] 115)
  have hl128 := hf.2.2.1
  have hFs := hf.2.1
  have hbse := hf.1
  obtain ⟨r, hrr⟩ : ∃ r, r = okN k m sl nm wt := ⟨_, rfl⟩
  have HM := hd_ (show makeF l k m sl nm wt = if r = true then if l.length < 128 then l ++ [⟨k, 0, 0, 0, m, sl, nm, wt, []⟩] else l else l by rw [hrr]; rfl)
  have HV := hd_ (show makeV l k m sl nm wt = if r = true then if l.length < 128 then ((l.length : Int) + 1, 0) else (0, 9) else (0, rightE k false) by rw [hrr]; rfl)
  rw [← hrr] at hr
  clear hrr
  cases r with
  | false =>
    replace HM := hd_ (HM.out.trans (if_neg (by simp)))
    replace HV := hd_ (HV.out.trans (if_neg (by simp)))
    go_enter Tryz.func63, Tryz.ntmps63
    go_wp2_with (first
      | (refine gate_ (.load 115 (.tmp 3)) rfl ?_; refine wpList_load_row rfl 115 (.tmp 3) rfl w.heap.size rfl 115 _ (0, 0) _ hX0 Tryz.underlying115 rfl info115 ?_)
      | (go_at_call 114; refine hr.mono ?_; rintro e w1 ⟨v, rfl, ⟨hv, hvE⟩, hb1⟩))
    go_ret2
    exact ⟨by rw [HV.out]; first | with_unfolding_all rfl | (simp; done) | rfl, by rw [HM.out]; exact hf.below (below_then hBx hBx.size hb1)⟩
  | true =>
    replace HM := hd_ (HM.out.trans (if_pos rfl))
    replace HV := hd_ (HV.out.trans (if_pos rfl))
    by_cases hlt : l.length < 128
    rotate_left
    · replace HM := hd_ (HM.out.trans (if_neg hlt))
      replace HV := hd_ (HV.out.trans (if_neg hlt))
      obtain ⟨v0, hv0, hN0⟩ := hf.2.2.2.2
      obtain ⟨A0, c0, rfl⟩ := Kd.N_slice hN0
      have q : ((128 : Int) ≤ (l.length : Int)) := by omega
      go_enter Tryz.func63, Tryz.ntmps63
      go_wp2_with (first
        | (refine gate_ (.load 115 (.tmp 3)) rfl ?_; refine wpList_load_row rfl 115 (.tmp 3) rfl w.heap.size rfl 115 _ (0, 0) _ hX0 Tryz.underlying115 rfl info115 ?_)
        | (go_at_call 114; refine hr.mono ?_; rintro e w1 ⟨v, rfl, ⟨hv, hvE⟩, hb1⟩; obtain rfl : v = 0 := (by simpa using hv); have z0 := (blk_cell (blk_below hv0 (below_then hBx hBx.size hb1)) 0).trans rfl; clear hv))
      go_ret2
      exact ⟨by rw [HV.out]; first | with_unfolding_all rfl | (simp; done) | rfl, by rw [HM.out]; exact hf.below (below_then hBx hBx.size hb1)⟩
    · replace HM := hd_ (HM.out.trans (if_pos hlt))
      replace HV := hd_ (HV.out.trans (if_pos hlt))
      obtain ⟨v0, hv0, hN0⟩ := hf.2.2.2.2
      obtain ⟨A0, c0, rfl⟩ := Kd.N_slice hN0
      have hvF : some F ≠ (Value.slice A0 l.length c0).ownBlock := fun e => (hN0.1 F e.symm).2 rfl
      have q : ¬ ((128 : Int) ≤ (l.length : Int)) := by omega
      clear hN0
      go_enter Tryz.func63, Tryz.ntmps63
      go_wp2_with (first
        | (refine gate_ (.load 115 (.tmp 3)) rfl ?_; refine wpList_load_row rfl 115 (.tmp 3) rfl w.heap.size rfl 115 _ (0, 0) _ hX0 Tryz.underlying115 rfl info115 ?_)
        | (go_at_call 114; refine hr.mono ?_; rintro e w1 ⟨v, rfl, ⟨hv, hvE⟩, hb1⟩; obtain rfl : v = 0 := (by simpa using hv); have hv1 := blk_below hv0 (below_then hBx hBx.size hb1); have z0 := (blk_cell hv1 0).trans rfl; have hX1 := blk_below hX0 hb1; clear hv))
      have hf1 := hf.below (below_then hBx hBx.size hb1)
      have hb2 := below_drew (below_then hBx hBx.size hb1)
      have hf2 := hf.below hb2
      generalize w.heap.size = bx at *
      refine start_ (n := 21) (S := fun W' => W'.heap[F]? = some (.cells #[.slice A0 l.length c0] 77 (0, 0)) ∧ W'.heap[bx]? = some (.cells #[.int .i64 k, .int .i64 p, .int .i64 h, .int .i64 s, .int .i64 m, .bool sl, .string nm, .string wt, .slice A n c] 115 (0, 0))) (ds := [17, 20]) (bm 21 0) (by kernel_rfl) rfl (by kernel_rfl) ⟨hv1, hX1⟩ (fun hHeld => ?_)
      refine pu_ 0 (some 20) (bm 21 1) ?_
      refine pu_ 1 (some 21) (bm 21 3) ?_
      refine pu_ 2 (some 22) (bm 21 7) ?_
      refine pu_ 3 (some 23) (bm 21 15) ?_
      refine ta_ 4 (some 24) (bm 21 31) hHeld (fun _ hSw => blk_cell hSw.1 0) ?_
      refine pu_ 5 (some 25) (bm 21 63) ?_
      refine ta_ 6 (some 26) (bm 21 127) hHeld (fun _ hSw => blk_cell hSw.2 0) ?_
      refine pu_ 7 (some 27) (bm 21 255) ?_
      refine ta_ 8 (some 28) (bm 21 511) hHeld (fun _ hSw => blk_cell hSw.2 4) ?_
      refine pu_ 9 (some 29) (bm 21 1023) ?_
      refine ta_ 10 (some 30) (bm 21 2047) hHeld (fun _ hSw => blk_cell hSw.2 5) ?_
      refine pu_ 11 (some 31) (bm 21 4095) ?_
      refine ta_ 12 (some 32) (bm 21 8191) hHeld (fun _ hSw => blk_cell hSw.2 6) ?_
      refine pu_ 13 (some 33) (bm 21 16383) ?_
      refine ta_ 14 (some 34) (bm 21 32767) hHeld (fun _ hSw => blk_cell hSw.2 7) ?_
      refine pu_ 15 (some 35) (bm 21 65535) ?_
      refine one_ (i := 16) (N := (some 36)) (bm 21 131071) rfl rfl (by kernel_rfl) (by decide) (fun K hK => ?_)
      refine value_ (w1 := w1.drew.alloc (.cells #[.int .i64 k, .int .i64 0, .int .i64 0, .int .i64 0, .int .i64 m, .bool sl, .string nm, .string wt, .slice none 0 0] 115)) (v := .slice (some ⟨w1.heap.size, 0, none⟩) 1 1) (by rfl) rfl ?_ ?_
      · go_simp
      refine hK.out _ _ ⟨alloc_at hHeld.1 _, alloc_at hHeld.2 _⟩ (fun hHeld => ?_)
      clear hK K
      refine norm_ (a' := ?_) ?_ ?_
      rotate_left
      · show Act.put _ (some 36) _ = _
        simp only [Act.put, List.setIfInBounds_toArray, List.set_cons_zero, List.set_cons_succ]
        rfl
      refine last_ (i := 17) (N := (some 37)) (bm 21 262143) rfl rfl (by kernel_rfl) (by decide) (fun K hK => ?_)
      have hf3 := hf2
      obtain ⟨hx1, hx2, hx3, hx4, v0', hx5, hx6⟩ := hf2
      have e0 := hx5.symm.trans (show w1.drew.heap[F]? = some (.cells #[.slice A0 l.length c0] 77 (0, 0)) from hv1)
      simp only [Option.some.injEq, Obj.cells.injEq, Array.mk.injEq, List.cons.injEq, and_true] at e0
      subst e0
      refine Kd.N_append_step k115 (w0 := w0) (W := w1.drew) w0.heap.size (by rfl) (.tmp 24) (.tmp 36) 75 115 zeroN 104 rfl Tryz.underlying75 info61n rfl (by decide) (by decide) (.slice A0 l.length c0) l ⟨k, 0, 0, 0, m, sl, nm, wt, []⟩ _ (fun k => Q k ∧ k ≠ F) (fun _ => False) rfl rfl (k115_mkF w1.drew _ ⟨k, 0, 0, 0, m, sl, nm, wt, []⟩ (A8 := none) (c8 := 0) (Nat.le_refl _) (Kd.F_nil _ _ _)) (fun _ hk => hk.elim) (fun k' hk => ⟨hx4.qn _ (Nat.le_trans hx4.sz hk), fun e => by subst e; exact absurd hx2 (by simp at hk ⊢; omega)⟩) hx6 hx4.base hx4.base.size (by omega) ?_
      intro v1 w4 hN4 hB4 hg4 hat4
      have hP := hf3.put (w1 := w4) (show w1.drew.heap[F]? = some (.cells #[.slice A0 l.length c0] 77 (0, 0)) from hv1) hvF hN4 hB4 hg4 (fun k hk => (hx6.1 k hk).1) (by simp; omega)
      obtain ⟨A1, c1, e1⟩ := Kd.N_slice hN4
      rw [List.length_append, List.length_singleton] at e1
      subst e1
      have y4 := (blk_cell hP.1 0).trans rfl
      have yf := blk_frozen hP.1 0
      refine hK.out _ _ ?_
      clear hK K
      refine norm_ (a' := ?_) ?_ ?_
      rotate_left
      · show Act.put _ (some 37) _ = _
        simp only [Act.put, List.setIfInBounds_toArray, List.set_cons_zero, List.set_cons_succ]
        rfl
      refine pu_ 18 (some 38) (bm 21 524287) ?_
      refine pu_ 19 (some 39) (bm 21 1048575) ?_
      refine last_ (i := 20) (N := none) (bm 21 2097151) rfl rfl (by kernel_rfl) (by decide) (fun K hK => ?_)
      refine skip_ (w1 := w4.setCell ⟨F, 0, none⟩ (.slice A1 (l.length + 1) c1)) (by rfl) rfl ?_ ?_
      · go_simp
      refine hK.out _ _ ?_
      clear hK K
      refine done_ (by kernel_rfl) ?_
      go_wp2
      go_ret2
      exact ⟨by rw [HV.out]; try rfl, by rw [HM.out]; exact hP.2⟩
end Go.Proofs.YtgopddjmmoohdaaGreatDoor

/- A node's children are set: the row of numbers that was made and filled behind the store. -/
set_option linter.unusedSimpArgs false
set_option linter.unusedVariables false
namespace Go.Proofs.YtgopddjmmoohdaaGreatDoor
open Go.RowKit Go.Proofs.YtgopddjmmoohdaaGreatDoorW.PrintWords Go.Proofs.YtgopddjmmoohdaaGreatDoorW.PrintLast Go.Proofs.YtgopddjmmoohdaaGreatDoor.PPlaySilent

theorem FoO.congr {Q : Nat → Prop} {w0 ws W V : World} {F : Nat} {l : List S115} (h : FoO Q w0 ws W F l) (hk : ∀ k, k < W.heap.size → V.heap[k]? = W.heap[k]?) (hs : W.heap.size ≤ V.heap.size) (hB : Below w0.heap.size w0 V) : FoO Q w0 ws V F l := by
  obtain ⟨h1, h2, h3, h4, v, h5, h6⟩ := h
  have hF := (hk F h2).trans h5
  exact ⟨h1, blk_lt hF, h3, h4.same hk hs hB, v, hF, Kd.N_step h6 (fun k _ hlt => hk k hlt)⟩
theorem set_back (cs : Array Value) (o : Nat) (v u : Value) (h : cs[o]? = some u) : (cs.setIfInBounds o v).setIfInBounds o u = cs := by
  obtain ⟨h1, h2⟩ := Array.getElem?_eq_some_iff.1 h
  refine Array.ext_getElem? (fun i => ?_)
  rw [Array.getElem?_setIfInBounds, Array.getElem?_setIfInBounds]
  by_cases e : o = i
  · subst e; simp [h1, h2]
  · simp [e]
theorem FoO.setKids {Q : Nat → Prop} {w0 ws W W3 : World} {F g j : Nat} {l : List S115} {x : S115} (h : FoO Q w0 ws W F l) (hx : l[j]? = some x) {cap : Nat} (hF : W.heap[F]? = some (.cells #[.slice (some ⟨g, 0, none⟩) l.length cap] 77 (0, 0))) (hg0 : Q g) (hgs : g < W.heap.size) (hgF : g ≠ F)
    (hn : ∀ (V : World) (l' : List S115), FoO Q w0 ws V F l' → l'.length = l.length → V.heap[F]? = W.heap[F]? → ∀ j x, l'[j]? = some x → NodeAt Q w0 ws V F l' j x g)
    {A : Option Addr} {c : Nat} {ks : List Int} {ok : Nat → Prop} (hR : (Kd.int .i64).R 3 W3 W.heap.size ok (.slice A ks.length c) ks) (hk : ∀ k, k < W.heap.size → k ≠ g → W3.heap[k]? = W.heap[k]?)
    {cs : Array Value} (hgc : W.heap[g]? = some (.cells cs 115 (0, 0))) (hg3 : W3.heap[g]? = some (.cells (cs.setIfInBounds (j * 9 + 8) (.slice A ks.length c)) 115 (0, 0))) (hs3 : W.heap.size ≤ W3.heap.size) (hB : Below w0.heap.size w0 W3) :
    FoO Q w0 ws W3 F (l.set j { x with f8 := ks }) := by
  have hN := hn W l h rfl rfl j x hx
  obtain ⟨A8, c8, k8, -, -⟩ := hN.k8
  have hu : cs[j * 9 + 8]? = some (.slice A8 x.f8.length c8) := (blk_cell hgc _).symm.trans k8
  have hVg : (W3.setCell ⟨g, j * 9 + 8, none⟩ (.slice A8 x.f8.length c8)).heap[g]? = some (.cells cs 115 (0, 0)) := blk_put hg3 _ _ (set_back cs _ _ _ hu)
  have hVk : ∀ k, k ≠ g → (W3.setCell ⟨g, j * 9 + 8, none⟩ (.slice A8 x.f8.length c8)).heap[k]? = W3.heap[k]? := fun k hk => Below.heap_setCell W3 _ _ k hk
  have hBV := below_set_cell hB (h.basex.qb g hg0) (j * 9 + 8) (.slice A8 x.f8.length c8)
  have hsz : ∀ u, (W3.setCell ⟨g, j * 9 + 8, none⟩ u).heap.size = W3.heap.size := fun u => by simp
  obtain ⟨V, hV⟩ : ∃ V, V = W3.setCell ⟨g, j * 9 + 8, none⟩ (.slice A8 x.f8.length c8) := ⟨_, rfl⟩
  have hfar : (Kd.int .i64).F V (fun k => (Q k ∧ k ≠ F) ∧ k ≠ g) A ks.length ks := by
    rw [hV]
    have hR' := Kd.R_tight rfl hR
    have hb := Kd.R_base hR
    have hF2 := blk_lt hF
    refine Kd.F_far (Kd.F_mono (Kd.R_F hR') (fun k hk => ?_)) (fun k hk => hk.2) _
    have := hb k hk.symm
    have hx := h.basex
    exact ⟨⟨hx.qn _ (Nat.le_trans hx.sz (by omega)), by omega⟩, by omega⟩
  have hsW : W.heap.size ≤ W3.heap.size := hs3
  have hsV : W3.heap.size ≤ V.heap.size := by rw [hV, hsz]; exact Nat.le_refl _
  rw [← hV] at hVg hVk hBV
  have hFV : FoO Q w0 ws V F l := h.congr (fun k hlt => by
    by_cases e : k = g
    · subst e; rw [hVg, hgc]
    · rw [hVk k e, hk k hlt e]) (Nat.le_trans hsW hsV) hBV
  have hNV := hn V l hFV rfl (by rw [hVk F (Ne.symm hgF), hk F (blk_lt hF) (Ne.symm hgF)]) j x hx
  have hsz2 : (V.setCell ⟨g, j * 9 + 8, none⟩ (.slice A ks.length c)).heap.size = V.heap.size := by simp
  have hs := hNV.s8 A c ks (Kd.R_reads' hR).2.1 hfar
  refine hs.congr (fun k _ => ?_) (by rw [hsz2, hV, hsz]; exact Nat.le_refl _) hB
  by_cases e : k = g
  · subst e
    rw [blk_put hVg (j * 9 + 8) (.slice A ks.length c) rfl, hg3]
  · rw [Below.heap_setCell V _ _ k e, hVk k e]
end Go.Proofs.YtgopddjmmoohdaaGreatDoor
