/- arena.right, New, Make. -/
import Derived.Test.YtmjedjhgomlfiaaForOwns
set_option linter.unusedSimpArgs false
set_option linter.unusedVariables false
namespace Go.Proofs.Ytmjedjhgomlfiaa
open Go.RowKit Go.Proofs.YtmjedjhgomlfiaaW.PrintWords Go.Proofs.YtmjedjhgomlfiaaW.PrintLast Go.Proofs.Ytmjedjhgomlfiaa.PAuditLeaks

theorem ad_ (w : World) (o : Obj) (n : Nat) : Below w.heap.size w ((w.alloc o).drewN n) := pw_below_drewN (below_alloc (Below.refl _ _) _) n
theorem box_at {w w2 : World} {o : Obj} {n : Nat} (h : Below ((w.alloc o).drewN n).heap.size ((w.alloc o).drewN n) w2) : w2.heap[w.heap.size]? = some o := blk_below (show ((w.alloc o).drewN n).heap[w.heap.size]? = some o from alloc_new' rfl) h
/-- May a node be made? -/
def okN (k m : Int) (sl : Bool) (nm wt : ByteArray) : Bool := decide (1 ≤ k) && (decide (k ≤ 4) && ((if k = 3 then (m == 1 || m == 2) else m == 0) && ((k == 2 || (!sl && wt.toList.isEmpty)) && ((sl || nm.toList.isEmpty) && (namedW nm && namedW wt)))))
set_option maxRecDepth 100000 in
set_option maxHeartbeats 6400000 in
theorem right_node (k p h s m : Int) (sl : Bool) (nm wt : ByteArray) (A : Option Addr) (n c : Nat) (w : World) :
    Calls Try.prog 44 #[.agg #[.int .i64 k, .int .i64 p, .int .i64 h, .int .i64 s, .int .i64 m, .bool sl, .string nm, .string wt, .slice A n c]] w fun e w' => ∃ v : Int, e = .returned (.int .i64 v) ∧ (v == 0) = okN k m sl nm wt ∧ Below w.heap.size w w' := by
  have hn6 := named_any nm
  have hn7 := named_any wt
  obtain ⟨r, hr⟩ : ∃ r, r = okN k m sl nm wt := ⟨_, rfl⟩
  rw [← hr]
  by_cases k1 : k < 1
  · skip
    have H : Hd (r = false) := ⟨by rw [hr]; clear hr hn6 hn7; first | (simp [okN, *]; done) | (simp [okN, *]; omega) | (simp [okN, *]; intros; omega)⟩
    clear hr
    go_enter Try.func44, Try.ntmps44
    go_wp2
    go_quiet (fail)
    go_wp2_with (go_at_call 48; first | (with_reducible refine (hn6 _).mono ?_; rintro e w2 ⟨rfl, hb2⟩; have z7 := blk_cell (box_at hb2) 7) | (with_reducible refine (hn7 _).mono ?_; rintro e w3 ⟨rfl, hb3⟩))
    all_goals go_ret
    all_goals exact ⟨2, rfl, by rw [H.out]; rfl, by first | exact ad_ _ _ _ | exact below_then (ad_ _ _ _) (ad_ _ _ _).size hb2 | exact below_then (below_then (ad_ _ _ _) (ad_ _ _ _).size hb2) (below_then (ad_ _ _ _) (ad_ _ _ _).size hb2).size hb3⟩
  · skip
    by_cases k4 : 4 < k
    · skip
      have H : Hd (r = false) := ⟨by rw [hr]; clear hr hn6 hn7; first | (simp [okN, *]; done) | (simp [okN, *]; omega) | (simp [okN, *]; intros; omega)⟩
      clear hr
      go_enter Try.func44, Try.ntmps44
      go_wp2
      go_quiet (fail)
      go_wp2_with (go_at_call 48; first | (with_reducible refine (hn6 _).mono ?_; rintro e w2 ⟨rfl, hb2⟩; have z7 := blk_cell (box_at hb2) 7) | (with_reducible refine (hn7 _).mono ?_; rintro e w3 ⟨rfl, hb3⟩))
      all_goals go_ret
      all_goals exact ⟨2, rfl, by rw [H.out]; rfl, by first | exact ad_ _ _ _ | exact below_then (ad_ _ _ _) (ad_ _ _ _).size hb2 | exact below_then (below_then (ad_ _ _ _) (ad_ _ _ _).size hb2) (below_then (ad_ _ _ _) (ad_ _ _ _).size hb2).size hb3⟩
    · skip
      by_cases k3 : k = 3
      · subst k3
        by_cases m1 : m = 1
        · subst m1
          cases sl with
          | true =>
            have H : Hd (r = false) := ⟨by rw [hr]; clear hr hn6 hn7; first | (simp [okN, *]; done) | (simp [okN, *]; omega) | (simp [okN, *]; intros; omega)⟩
            clear hr
            go_enter Try.func44, Try.ntmps44
            go_wp2
            go_quiet (fail)
            go_wp2_with (go_at_call 48; first | (with_reducible refine (hn6 _).mono ?_; rintro e w2 ⟨rfl, hb2⟩; have z7 := blk_cell (box_at hb2) 7) | (with_reducible refine (hn7 _).mono ?_; rintro e w3 ⟨rfl, hb3⟩))
            all_goals go_ret
            all_goals exact ⟨1, rfl, by rw [H.out]; rfl, by first | exact ad_ _ _ _ | exact below_then (ad_ _ _ _) (ad_ _ _ _).size hb2 | exact below_then (below_then (ad_ _ _ _) (ad_ _ _ _).size hb2) (below_then (ad_ _ _ _) (ad_ _ _ _).size hb2).size hb3⟩
          | false =>
            cases e7 : wt.toList.isEmpty with
            | true =>
              cases e6 : nm.toList.isEmpty with
              | true =>
                cases g6 : namedW nm with
                | true =>
                  rw [g6] at hn6
                  cases g7 : namedW wt with
                  | true =>
                    rw [g7] at hn7
                    have H : Hd (r = true) := ⟨by rw [hr]; clear hr hn6 hn7; first | (simp [okN, *]; done) | (simp [okN, *]; omega) | (simp [okN, *]; intros; omega)⟩
                    clear hr
                    go_enter Try.func44, Try.ntmps44
                    go_wp2
                    go_quiet (fail)
                    go_wp2_with (go_at_call 48; first | (with_reducible refine (hn6 _).mono ?_; rintro e w2 ⟨rfl, hb2⟩; have z7 := blk_cell (box_at hb2) 7) | (with_reducible refine (hn7 _).mono ?_; rintro e w3 ⟨rfl, hb3⟩))
                    all_goals go_ret
                    all_goals exact ⟨0, rfl, by rw [H.out]; rfl, by first | exact ad_ _ _ _ | exact below_then (ad_ _ _ _) (ad_ _ _ _).size hb2 | exact below_then (below_then (ad_ _ _ _) (ad_ _ _ _).size hb2) (below_then (ad_ _ _ _) (ad_ _ _ _).size hb2).size hb3⟩
                  | false =>
                    rw [g7] at hn7
                    have H : Hd (r = false) := ⟨by rw [hr]; clear hr hn6 hn7; first | (simp [okN, *]; done) | (simp [okN, *]; omega) | (simp [okN, *]; intros; omega)⟩
                    clear hr
                    go_enter Try.func44, Try.ntmps44
                    go_wp2
                    go_quiet (fail)
                    go_wp2_with (go_at_call 48; first | (with_reducible refine (hn6 _).mono ?_; rintro e w2 ⟨rfl, hb2⟩; have z7 := blk_cell (box_at hb2) 7) | (with_reducible refine (hn7 _).mono ?_; rintro e w3 ⟨rfl, hb3⟩))
                    all_goals go_ret
                    all_goals exact ⟨1, rfl, by rw [H.out]; rfl, by first | exact ad_ _ _ _ | exact below_then (ad_ _ _ _) (ad_ _ _ _).size hb2 | exact below_then (below_then (ad_ _ _ _) (ad_ _ _ _).size hb2) (below_then (ad_ _ _ _) (ad_ _ _ _).size hb2).size hb3⟩
                | false =>
                  rw [g6] at hn6
                  have H : Hd (r = false) := ⟨by rw [hr]; clear hr hn6 hn7; first | (simp [okN, *]; done) | (simp [okN, *]; omega) | (simp [okN, *]; intros; omega)⟩
                  clear hr
                  go_enter Try.func44, Try.ntmps44
                  go_wp2
                  go_quiet (fail)
                  go_wp2_with (go_at_call 48; first | (with_reducible refine (hn6 _).mono ?_; rintro e w2 ⟨rfl, hb2⟩; have z7 := blk_cell (box_at hb2) 7) | (with_reducible refine (hn7 _).mono ?_; rintro e w3 ⟨rfl, hb3⟩))
                  all_goals go_ret
                  all_goals exact ⟨1, rfl, by rw [H.out]; rfl, by first | exact ad_ _ _ _ | exact below_then (ad_ _ _ _) (ad_ _ _ _).size hb2 | exact below_then (below_then (ad_ _ _ _) (ad_ _ _ _).size hb2) (below_then (ad_ _ _ _) (ad_ _ _ _).size hb2).size hb3⟩
              | false =>
                have H : Hd (r = false) := ⟨by rw [hr]; clear hr hn6 hn7; first | (simp [okN, *]; done) | (simp [okN, *]; omega) | (simp [okN, *]; intros; omega)⟩
                clear hr
                go_enter Try.func44, Try.ntmps44
                go_wp2
                go_quiet (fail)
                go_wp2_with (go_at_call 48; first | (with_reducible refine (hn6 _).mono ?_; rintro e w2 ⟨rfl, hb2⟩; have z7 := blk_cell (box_at hb2) 7) | (with_reducible refine (hn7 _).mono ?_; rintro e w3 ⟨rfl, hb3⟩))
                all_goals go_ret
                all_goals exact ⟨1, rfl, by rw [H.out]; rfl, by first | exact ad_ _ _ _ | exact below_then (ad_ _ _ _) (ad_ _ _ _).size hb2 | exact below_then (below_then (ad_ _ _ _) (ad_ _ _ _).size hb2) (below_then (ad_ _ _ _) (ad_ _ _ _).size hb2).size hb3⟩
            | false =>
              have H : Hd (r = false) := ⟨by rw [hr]; clear hr hn6 hn7; first | (simp [okN, *]; done) | (simp [okN, *]; omega) | (simp [okN, *]; intros; omega)⟩
              clear hr
              go_enter Try.func44, Try.ntmps44
              go_wp2
              go_quiet (fail)
              go_wp2_with (go_at_call 48; first | (with_reducible refine (hn6 _).mono ?_; rintro e w2 ⟨rfl, hb2⟩; have z7 := blk_cell (box_at hb2) 7) | (with_reducible refine (hn7 _).mono ?_; rintro e w3 ⟨rfl, hb3⟩))
              all_goals go_ret
              all_goals exact ⟨1, rfl, by rw [H.out]; rfl, by first | exact ad_ _ _ _ | exact below_then (ad_ _ _ _) (ad_ _ _ _).size hb2 | exact below_then (below_then (ad_ _ _ _) (ad_ _ _ _).size hb2) (below_then (ad_ _ _ _) (ad_ _ _ _).size hb2).size hb3⟩
        · have r1 : (m == 1) = false := by simpa using m1
          by_cases m2 : m = 2
          · subst m2
            cases sl with
            | true =>
              have H : Hd (r = false) := ⟨by rw [hr]; clear hr hn6 hn7; first | (simp [okN, *]; done) | (simp [okN, *]; omega) | (simp [okN, *]; intros; omega)⟩
              clear hr
              go_enter Try.func44, Try.ntmps44
              go_wp2
              go_quiet (fail)
              go_wp2_with (go_at_call 48; first | (with_reducible refine (hn6 _).mono ?_; rintro e w2 ⟨rfl, hb2⟩; have z7 := blk_cell (box_at hb2) 7) | (with_reducible refine (hn7 _).mono ?_; rintro e w3 ⟨rfl, hb3⟩))
              all_goals go_ret
              all_goals exact ⟨1, rfl, by rw [H.out]; rfl, by first | exact ad_ _ _ _ | exact below_then (ad_ _ _ _) (ad_ _ _ _).size hb2 | exact below_then (below_then (ad_ _ _ _) (ad_ _ _ _).size hb2) (below_then (ad_ _ _ _) (ad_ _ _ _).size hb2).size hb3⟩
            | false =>
              cases e7 : wt.toList.isEmpty with
              | true =>
                cases e6 : nm.toList.isEmpty with
                | true =>
                  cases g6 : namedW nm with
                  | true =>
                    rw [g6] at hn6
                    cases g7 : namedW wt with
                    | true =>
                      rw [g7] at hn7
                      have H : Hd (r = true) := ⟨by rw [hr]; clear hr hn6 hn7; first | (simp [okN, *]; done) | (simp [okN, *]; omega) | (simp [okN, *]; intros; omega)⟩
                      clear hr
                      go_enter Try.func44, Try.ntmps44
                      go_wp2
                      go_quiet (fail)
                      go_wp2_with (go_at_call 48; first | (with_reducible refine (hn6 _).mono ?_; rintro e w2 ⟨rfl, hb2⟩; have z7 := blk_cell (box_at hb2) 7) | (with_reducible refine (hn7 _).mono ?_; rintro e w3 ⟨rfl, hb3⟩))
                      all_goals go_ret
                      all_goals exact ⟨0, rfl, by rw [H.out]; rfl, by first | exact ad_ _ _ _ | exact below_then (ad_ _ _ _) (ad_ _ _ _).size hb2 | exact below_then (below_then (ad_ _ _ _) (ad_ _ _ _).size hb2) (below_then (ad_ _ _ _) (ad_ _ _ _).size hb2).size hb3⟩
                    | false =>
                      rw [g7] at hn7
                      have H : Hd (r = false) := ⟨by rw [hr]; clear hr hn6 hn7; first | (simp [okN, *]; done) | (simp [okN, *]; omega) | (simp [okN, *]; intros; omega)⟩
                      clear hr
                      go_enter Try.func44, Try.ntmps44
                      go_wp2
                      go_quiet (fail)
                      go_wp2_with (go_at_call 48; first | (with_reducible refine (hn6 _).mono ?_; rintro e w2 ⟨rfl, hb2⟩; have z7 := blk_cell (box_at hb2) 7) | (with_reducible refine (hn7 _).mono ?_; rintro e w3 ⟨rfl, hb3⟩))
                      all_goals go_ret
                      all_goals exact ⟨1, rfl, by rw [H.out]; rfl, by first | exact ad_ _ _ _ | exact below_then (ad_ _ _ _) (ad_ _ _ _).size hb2 | exact below_then (below_then (ad_ _ _ _) (ad_ _ _ _).size hb2) (below_then (ad_ _ _ _) (ad_ _ _ _).size hb2).size hb3⟩
                  | false =>
                    rw [g6] at hn6
                    have H : Hd (r = false) := ⟨by rw [hr]; clear hr hn6 hn7; first | (simp [okN, *]; done) | (simp [okN, *]; omega) | (simp [okN, *]; intros; omega)⟩
                    clear hr
                    go_enter Try.func44, Try.ntmps44
                    go_wp2
                    go_quiet (fail)
                    go_wp2_with (go_at_call 48; first | (with_reducible refine (hn6 _).mono ?_; rintro e w2 ⟨rfl, hb2⟩; have z7 := blk_cell (box_at hb2) 7) | (with_reducible refine (hn7 _).mono ?_; rintro e w3 ⟨rfl, hb3⟩))
                    all_goals go_ret
                    all_goals exact ⟨1, rfl, by rw [H.out]; rfl, by first | exact ad_ _ _ _ | exact below_then (ad_ _ _ _) (ad_ _ _ _).size hb2 | exact below_then (below_then (ad_ _ _ _) (ad_ _ _ _).size hb2) (below_then (ad_ _ _ _) (ad_ _ _ _).size hb2).size hb3⟩
                | false =>
                  have H : Hd (r = false) := ⟨by rw [hr]; clear hr hn6 hn7; first | (simp [okN, *]; done) | (simp [okN, *]; omega) | (simp [okN, *]; intros; omega)⟩
                  clear hr
                  go_enter Try.func44, Try.ntmps44
                  go_wp2
                  go_quiet (fail)
                  go_wp2_with (go_at_call 48; first | (with_reducible refine (hn6 _).mono ?_; rintro e w2 ⟨rfl, hb2⟩; have z7 := blk_cell (box_at hb2) 7) | (with_reducible refine (hn7 _).mono ?_; rintro e w3 ⟨rfl, hb3⟩))
                  all_goals go_ret
                  all_goals exact ⟨1, rfl, by rw [H.out]; rfl, by first | exact ad_ _ _ _ | exact below_then (ad_ _ _ _) (ad_ _ _ _).size hb2 | exact below_then (below_then (ad_ _ _ _) (ad_ _ _ _).size hb2) (below_then (ad_ _ _ _) (ad_ _ _ _).size hb2).size hb3⟩
              | false =>
                have H : Hd (r = false) := ⟨by rw [hr]; clear hr hn6 hn7; first | (simp [okN, *]; done) | (simp [okN, *]; omega) | (simp [okN, *]; intros; omega)⟩
                clear hr
                go_enter Try.func44, Try.ntmps44
                go_wp2
                go_quiet (fail)
                go_wp2_with (go_at_call 48; first | (with_reducible refine (hn6 _).mono ?_; rintro e w2 ⟨rfl, hb2⟩; have z7 := blk_cell (box_at hb2) 7) | (with_reducible refine (hn7 _).mono ?_; rintro e w3 ⟨rfl, hb3⟩))
                all_goals go_ret
                all_goals exact ⟨1, rfl, by rw [H.out]; rfl, by first | exact ad_ _ _ _ | exact below_then (ad_ _ _ _) (ad_ _ _ _).size hb2 | exact below_then (below_then (ad_ _ _ _) (ad_ _ _ _).size hb2) (below_then (ad_ _ _ _) (ad_ _ _ _).size hb2).size hb3⟩
          · have r2 : (m == 2) = false := by simpa using m2
            have H : Hd (r = false) := ⟨by rw [hr]; clear hr hn6 hn7; first | (simp [okN, *]; done) | (simp [okN, *]; omega) | (simp [okN, *]; intros; omega)⟩
            clear hr
            go_enter Try.func44, Try.ntmps44
            go_wp2
            go_quiet (fail)
            go_wp2_with (go_at_call 48; first | (with_reducible refine (hn6 _).mono ?_; rintro e w2 ⟨rfl, hb2⟩; have z7 := blk_cell (box_at hb2) 7) | (with_reducible refine (hn7 _).mono ?_; rintro e w3 ⟨rfl, hb3⟩))
            all_goals go_ret
            all_goals exact ⟨1, rfl, by rw [H.out]; rfl, by first | exact ad_ _ _ _ | exact below_then (ad_ _ _ _) (ad_ _ _ _).size hb2 | exact below_then (below_then (ad_ _ _ _) (ad_ _ _ _).size hb2) (below_then (ad_ _ _ _) (ad_ _ _ _).size hb2).size hb3⟩
      · have r3 : (k == 3) = false := by simpa using k3
        by_cases m0 : m = 0
        · subst m0
          by_cases k2 : k = 2
          · subst k2
            cases sl with
            | true =>
              cases e6 : nm.toList.isEmpty with
              | true =>
                cases g6 : namedW nm with
                | true =>
                  rw [g6] at hn6
                  cases g7 : namedW wt with
                  | true =>
                    rw [g7] at hn7
                    have H : Hd (r = true) := ⟨by rw [hr]; clear hr hn6 hn7; first | (simp [okN, *]; done) | (simp [okN, *]; omega) | (simp [okN, *]; intros; omega)⟩
                    clear hr
                    go_enter Try.func44, Try.ntmps44
                    go_wp2
                    go_quiet (fail)
                    go_wp2_with (go_at_call 48; first | (with_reducible refine (hn6 _).mono ?_; rintro e w2 ⟨rfl, hb2⟩; have z7 := blk_cell (box_at hb2) 7) | (with_reducible refine (hn7 _).mono ?_; rintro e w3 ⟨rfl, hb3⟩))
                    all_goals go_ret
                    all_goals exact ⟨0, rfl, by rw [H.out]; rfl, by first | exact ad_ _ _ _ | exact below_then (ad_ _ _ _) (ad_ _ _ _).size hb2 | exact below_then (below_then (ad_ _ _ _) (ad_ _ _ _).size hb2) (below_then (ad_ _ _ _) (ad_ _ _ _).size hb2).size hb3⟩
                  | false =>
                    rw [g7] at hn7
                    have H : Hd (r = false) := ⟨by rw [hr]; clear hr hn6 hn7; first | (simp [okN, *]; done) | (simp [okN, *]; omega) | (simp [okN, *]; intros; omega)⟩
                    clear hr
                    go_enter Try.func44, Try.ntmps44
                    go_wp2
                    go_quiet (fail)
                    go_wp2_with (go_at_call 48; first | (with_reducible refine (hn6 _).mono ?_; rintro e w2 ⟨rfl, hb2⟩; have z7 := blk_cell (box_at hb2) 7) | (with_reducible refine (hn7 _).mono ?_; rintro e w3 ⟨rfl, hb3⟩))
                    all_goals go_ret
                    all_goals exact ⟨1, rfl, by rw [H.out]; rfl, by first | exact ad_ _ _ _ | exact below_then (ad_ _ _ _) (ad_ _ _ _).size hb2 | exact below_then (below_then (ad_ _ _ _) (ad_ _ _ _).size hb2) (below_then (ad_ _ _ _) (ad_ _ _ _).size hb2).size hb3⟩
                | false =>
                  rw [g6] at hn6
                  have H : Hd (r = false) := ⟨by rw [hr]; clear hr hn6 hn7; first | (simp [okN, *]; done) | (simp [okN, *]; omega) | (simp [okN, *]; intros; omega)⟩
                  clear hr
                  go_enter Try.func44, Try.ntmps44
                  go_wp2
                  go_quiet (fail)
                  go_wp2_with (go_at_call 48; first | (with_reducible refine (hn6 _).mono ?_; rintro e w2 ⟨rfl, hb2⟩; have z7 := blk_cell (box_at hb2) 7) | (with_reducible refine (hn7 _).mono ?_; rintro e w3 ⟨rfl, hb3⟩))
                  all_goals go_ret
                  all_goals exact ⟨1, rfl, by rw [H.out]; rfl, by first | exact ad_ _ _ _ | exact below_then (ad_ _ _ _) (ad_ _ _ _).size hb2 | exact below_then (below_then (ad_ _ _ _) (ad_ _ _ _).size hb2) (below_then (ad_ _ _ _) (ad_ _ _ _).size hb2).size hb3⟩
              | false =>
                cases g6 : namedW nm with
                | true =>
                  rw [g6] at hn6
                  cases g7 : namedW wt with
                  | true =>
                    rw [g7] at hn7
                    have H : Hd (r = true) := ⟨by rw [hr]; clear hr hn6 hn7; first | (simp [okN, *]; done) | (simp [okN, *]; omega) | (simp [okN, *]; intros; omega)⟩
                    clear hr
                    go_enter Try.func44, Try.ntmps44
                    go_wp2
                    go_quiet (fail)
                    go_wp2_with (go_at_call 48; first | (with_reducible refine (hn6 _).mono ?_; rintro e w2 ⟨rfl, hb2⟩; have z7 := blk_cell (box_at hb2) 7) | (with_reducible refine (hn7 _).mono ?_; rintro e w3 ⟨rfl, hb3⟩))
                    all_goals go_ret
                    all_goals exact ⟨0, rfl, by rw [H.out]; rfl, by first | exact ad_ _ _ _ | exact below_then (ad_ _ _ _) (ad_ _ _ _).size hb2 | exact below_then (below_then (ad_ _ _ _) (ad_ _ _ _).size hb2) (below_then (ad_ _ _ _) (ad_ _ _ _).size hb2).size hb3⟩
                  | false =>
                    rw [g7] at hn7
                    have H : Hd (r = false) := ⟨by rw [hr]; clear hr hn6 hn7; first | (simp [okN, *]; done) | (simp [okN, *]; omega) | (simp [okN, *]; intros; omega)⟩
                    clear hr
                    go_enter Try.func44, Try.ntmps44
                    go_wp2
                    go_quiet (fail)
                    go_wp2_with (go_at_call 48; first | (with_reducible refine (hn6 _).mono ?_; rintro e w2 ⟨rfl, hb2⟩; have z7 := blk_cell (box_at hb2) 7) | (with_reducible refine (hn7 _).mono ?_; rintro e w3 ⟨rfl, hb3⟩))
                    all_goals go_ret
                    all_goals exact ⟨1, rfl, by rw [H.out]; rfl, by first | exact ad_ _ _ _ | exact below_then (ad_ _ _ _) (ad_ _ _ _).size hb2 | exact below_then (below_then (ad_ _ _ _) (ad_ _ _ _).size hb2) (below_then (ad_ _ _ _) (ad_ _ _ _).size hb2).size hb3⟩
                | false =>
                  rw [g6] at hn6
                  have H : Hd (r = false) := ⟨by rw [hr]; clear hr hn6 hn7; first | (simp [okN, *]; done) | (simp [okN, *]; omega) | (simp [okN, *]; intros; omega)⟩
                  clear hr
                  go_enter Try.func44, Try.ntmps44
                  go_wp2
                  go_quiet (fail)
                  go_wp2_with (go_at_call 48; first | (with_reducible refine (hn6 _).mono ?_; rintro e w2 ⟨rfl, hb2⟩; have z7 := blk_cell (box_at hb2) 7) | (with_reducible refine (hn7 _).mono ?_; rintro e w3 ⟨rfl, hb3⟩))
                  all_goals go_ret
                  all_goals exact ⟨1, rfl, by rw [H.out]; rfl, by first | exact ad_ _ _ _ | exact below_then (ad_ _ _ _) (ad_ _ _ _).size hb2 | exact below_then (below_then (ad_ _ _ _) (ad_ _ _ _).size hb2) (below_then (ad_ _ _ _) (ad_ _ _ _).size hb2).size hb3⟩
            | false =>
              cases e6 : nm.toList.isEmpty with
              | true =>
                cases g6 : namedW nm with
                | true =>
                  rw [g6] at hn6
                  cases g7 : namedW wt with
                  | true =>
                    rw [g7] at hn7
                    have H : Hd (r = true) := ⟨by rw [hr]; clear hr hn6 hn7; first | (simp [okN, *]; done) | (simp [okN, *]; omega) | (simp [okN, *]; intros; omega)⟩
                    clear hr
                    go_enter Try.func44, Try.ntmps44
                    go_wp2
                    go_quiet (fail)
                    go_wp2_with (go_at_call 48; first | (with_reducible refine (hn6 _).mono ?_; rintro e w2 ⟨rfl, hb2⟩; have z7 := blk_cell (box_at hb2) 7) | (with_reducible refine (hn7 _).mono ?_; rintro e w3 ⟨rfl, hb3⟩))
                    all_goals go_ret
                    all_goals exact ⟨0, rfl, by rw [H.out]; rfl, by first | exact ad_ _ _ _ | exact below_then (ad_ _ _ _) (ad_ _ _ _).size hb2 | exact below_then (below_then (ad_ _ _ _) (ad_ _ _ _).size hb2) (below_then (ad_ _ _ _) (ad_ _ _ _).size hb2).size hb3⟩
                  | false =>
                    rw [g7] at hn7
                    have H : Hd (r = false) := ⟨by rw [hr]; clear hr hn6 hn7; first | (simp [okN, *]; done) | (simp [okN, *]; omega) | (simp [okN, *]; intros; omega)⟩
                    clear hr
                    go_enter Try.func44, Try.ntmps44
                    go_wp2
                    go_quiet (fail)
                    go_wp2_with (go_at_call 48; first | (with_reducible refine (hn6 _).mono ?_; rintro e w2 ⟨rfl, hb2⟩; have z7 := blk_cell (box_at hb2) 7) | (with_reducible refine (hn7 _).mono ?_; rintro e w3 ⟨rfl, hb3⟩))
                    all_goals go_ret
                    all_goals exact ⟨1, rfl, by rw [H.out]; rfl, by first | exact ad_ _ _ _ | exact below_then (ad_ _ _ _) (ad_ _ _ _).size hb2 | exact below_then (below_then (ad_ _ _ _) (ad_ _ _ _).size hb2) (below_then (ad_ _ _ _) (ad_ _ _ _).size hb2).size hb3⟩
                | false =>
                  rw [g6] at hn6
                  have H : Hd (r = false) := ⟨by rw [hr]; clear hr hn6 hn7; first | (simp [okN, *]; done) | (simp [okN, *]; omega) | (simp [okN, *]; intros; omega)⟩
                  clear hr
                  go_enter Try.func44, Try.ntmps44
                  go_wp2
                  go_quiet (fail)
                  go_wp2_with (go_at_call 48; first | (with_reducible refine (hn6 _).mono ?_; rintro e w2 ⟨rfl, hb2⟩; have z7 := blk_cell (box_at hb2) 7) | (with_reducible refine (hn7 _).mono ?_; rintro e w3 ⟨rfl, hb3⟩))
                  all_goals go_ret
                  all_goals exact ⟨1, rfl, by rw [H.out]; rfl, by first | exact ad_ _ _ _ | exact below_then (ad_ _ _ _) (ad_ _ _ _).size hb2 | exact below_then (below_then (ad_ _ _ _) (ad_ _ _ _).size hb2) (below_then (ad_ _ _ _) (ad_ _ _ _).size hb2).size hb3⟩
              | false =>
                have H : Hd (r = false) := ⟨by rw [hr]; clear hr hn6 hn7; first | (simp [okN, *]; done) | (simp [okN, *]; omega) | (simp [okN, *]; intros; omega)⟩
                clear hr
                go_enter Try.func44, Try.ntmps44
                go_wp2
                go_quiet (fail)
                go_wp2_with (go_at_call 48; first | (with_reducible refine (hn6 _).mono ?_; rintro e w2 ⟨rfl, hb2⟩; have z7 := blk_cell (box_at hb2) 7) | (with_reducible refine (hn7 _).mono ?_; rintro e w3 ⟨rfl, hb3⟩))
                all_goals go_ret
                all_goals exact ⟨1, rfl, by rw [H.out]; rfl, by first | exact ad_ _ _ _ | exact below_then (ad_ _ _ _) (ad_ _ _ _).size hb2 | exact below_then (below_then (ad_ _ _ _) (ad_ _ _ _).size hb2) (below_then (ad_ _ _ _) (ad_ _ _ _).size hb2).size hb3⟩
          · have r2 : (k == 2) = false := by simpa using k2
            cases sl with
            | true =>
              have H : Hd (r = false) := ⟨by rw [hr]; clear hr hn6 hn7; first | (simp [okN, *]; done) | (simp [okN, *]; omega) | (simp [okN, *]; intros; omega)⟩
              clear hr
              go_enter Try.func44, Try.ntmps44
              go_wp2
              go_quiet (fail)
              go_wp2_with (go_at_call 48; first | (with_reducible refine (hn6 _).mono ?_; rintro e w2 ⟨rfl, hb2⟩; have z7 := blk_cell (box_at hb2) 7) | (with_reducible refine (hn7 _).mono ?_; rintro e w3 ⟨rfl, hb3⟩))
              all_goals go_ret
              all_goals exact ⟨1, rfl, by rw [H.out]; rfl, by first | exact ad_ _ _ _ | exact below_then (ad_ _ _ _) (ad_ _ _ _).size hb2 | exact below_then (below_then (ad_ _ _ _) (ad_ _ _ _).size hb2) (below_then (ad_ _ _ _) (ad_ _ _ _).size hb2).size hb3⟩
            | false =>
              cases e7 : wt.toList.isEmpty with
              | true =>
                cases e6 : nm.toList.isEmpty with
                | true =>
                  cases g6 : namedW nm with
                  | true =>
                    rw [g6] at hn6
                    cases g7 : namedW wt with
                    | true =>
                      rw [g7] at hn7
                      have H : Hd (r = true) := ⟨by rw [hr]; clear hr hn6 hn7; first | (simp [okN, *]; done) | (simp [okN, *]; omega) | (simp [okN, *]; intros; omega)⟩
                      clear hr
                      go_enter Try.func44, Try.ntmps44
                      go_wp2
                      go_quiet (fail)
                      go_wp2_with (go_at_call 48; first | (with_reducible refine (hn6 _).mono ?_; rintro e w2 ⟨rfl, hb2⟩; have z7 := blk_cell (box_at hb2) 7) | (with_reducible refine (hn7 _).mono ?_; rintro e w3 ⟨rfl, hb3⟩))
                      all_goals go_ret
                      all_goals exact ⟨0, rfl, by rw [H.out]; rfl, by first | exact ad_ _ _ _ | exact below_then (ad_ _ _ _) (ad_ _ _ _).size hb2 | exact below_then (below_then (ad_ _ _ _) (ad_ _ _ _).size hb2) (below_then (ad_ _ _ _) (ad_ _ _ _).size hb2).size hb3⟩
                    | false =>
                      rw [g7] at hn7
                      have H : Hd (r = false) := ⟨by rw [hr]; clear hr hn6 hn7; first | (simp [okN, *]; done) | (simp [okN, *]; omega) | (simp [okN, *]; intros; omega)⟩
                      clear hr
                      go_enter Try.func44, Try.ntmps44
                      go_wp2
                      go_quiet (fail)
                      go_wp2_with (go_at_call 48; first | (with_reducible refine (hn6 _).mono ?_; rintro e w2 ⟨rfl, hb2⟩; have z7 := blk_cell (box_at hb2) 7) | (with_reducible refine (hn7 _).mono ?_; rintro e w3 ⟨rfl, hb3⟩))
                      all_goals go_ret
                      all_goals exact ⟨1, rfl, by rw [H.out]; rfl, by first | exact ad_ _ _ _ | exact below_then (ad_ _ _ _) (ad_ _ _ _).size hb2 | exact below_then (below_then (ad_ _ _ _) (ad_ _ _ _).size hb2) (below_then (ad_ _ _ _) (ad_ _ _ _).size hb2).size hb3⟩
                  | false =>
                    rw [g6] at hn6
                    have H : Hd (r = false) := ⟨by rw [hr]; clear hr hn6 hn7; first | (simp [okN, *]; done) | (simp [okN, *]; omega) | (simp [okN, *]; intros; omega)⟩
                    clear hr
                    go_enter Try.func44, Try.ntmps44
                    go_wp2
                    go_quiet (fail)
                    go_wp2_with (go_at_call 48; first | (with_reducible refine (hn6 _).mono ?_; rintro e w2 ⟨rfl, hb2⟩; have z7 := blk_cell (box_at hb2) 7) | (with_reducible refine (hn7 _).mono ?_; rintro e w3 ⟨rfl, hb3⟩))
                    all_goals go_ret
                    all_goals exact ⟨1, rfl, by rw [H.out]; rfl, by first | exact ad_ _ _ _ | exact below_then (ad_ _ _ _) (ad_ _ _ _).size hb2 | exact below_then (below_then (ad_ _ _ _) (ad_ _ _ _).size hb2) (below_then (ad_ _ _ _) (ad_ _ _ _).size hb2).size hb3⟩
                | false =>
                  have H : Hd (r = false) := ⟨by rw [hr]; clear hr hn6 hn7; first | (simp [okN, *]; done) | (simp [okN, *]; omega) | (simp [okN, *]; intros; omega)⟩
                  clear hr
                  go_enter Try.func44, Try.ntmps44
                  go_wp2
                  go_quiet (fail)
                  go_wp2_with (go_at_call 48; first | (with_reducible refine (hn6 _).mono ?_; rintro e w2 ⟨rfl, hb2⟩; have z7 := blk_cell (box_at hb2) 7) | (with_reducible refine (hn7 _).mono ?_; rintro e w3 ⟨rfl, hb3⟩))
                  all_goals go_ret
                  all_goals exact ⟨1, rfl, by rw [H.out]; rfl, by first | exact ad_ _ _ _ | exact below_then (ad_ _ _ _) (ad_ _ _ _).size hb2 | exact below_then (below_then (ad_ _ _ _) (ad_ _ _ _).size hb2) (below_then (ad_ _ _ _) (ad_ _ _ _).size hb2).size hb3⟩
              | false =>
                have H : Hd (r = false) := ⟨by rw [hr]; clear hr hn6 hn7; first | (simp [okN, *]; done) | (simp [okN, *]; omega) | (simp [okN, *]; intros; omega)⟩
                clear hr
                go_enter Try.func44, Try.ntmps44
                go_wp2
                go_quiet (fail)
                go_wp2_with (go_at_call 48; first | (with_reducible refine (hn6 _).mono ?_; rintro e w2 ⟨rfl, hb2⟩; have z7 := blk_cell (box_at hb2) 7) | (with_reducible refine (hn7 _).mono ?_; rintro e w3 ⟨rfl, hb3⟩))
                all_goals go_ret
                all_goals exact ⟨1, rfl, by rw [H.out]; rfl, by first | exact ad_ _ _ _ | exact below_then (ad_ _ _ _) (ad_ _ _ _).size hb2 | exact below_then (below_then (ad_ _ _ _) (ad_ _ _ _).size hb2) (below_then (ad_ _ _ _) (ad_ _ _ _).size hb2).size hb3⟩
        · have r0 : (m == 0) = false := by simpa using m0
          by_cases m1 : m = 1
          · subst m1
            have H : Hd (r = false) := ⟨by rw [hr]; clear hr hn6 hn7; first | (simp [okN, *]; done) | (simp [okN, *]; omega) | (simp [okN, *]; intros; omega)⟩
            clear hr
            go_enter Try.func44, Try.ntmps44
            go_wp2
            go_quiet (fail)
            go_wp2_with (go_at_call 48; first | (with_reducible refine (hn6 _).mono ?_; rintro e w2 ⟨rfl, hb2⟩; have z7 := blk_cell (box_at hb2) 7) | (with_reducible refine (hn7 _).mono ?_; rintro e w3 ⟨rfl, hb3⟩))
            all_goals go_ret
            all_goals exact ⟨1, rfl, by rw [H.out]; rfl, by first | exact ad_ _ _ _ | exact below_then (ad_ _ _ _) (ad_ _ _ _).size hb2 | exact below_then (below_then (ad_ _ _ _) (ad_ _ _ _).size hb2) (below_then (ad_ _ _ _) (ad_ _ _ _).size hb2).size hb3⟩
          · have r1 : (m == 1) = false := by simpa using m1
            by_cases m2 : m = 2
            · subst m2
              have H : Hd (r = false) := ⟨by rw [hr]; clear hr hn6 hn7; first | (simp [okN, *]; done) | (simp [okN, *]; omega) | (simp [okN, *]; intros; omega)⟩
              clear hr
              go_enter Try.func44, Try.ntmps44
              go_wp2
              go_quiet (fail)
              go_wp2_with (go_at_call 48; first | (with_reducible refine (hn6 _).mono ?_; rintro e w2 ⟨rfl, hb2⟩; have z7 := blk_cell (box_at hb2) 7) | (with_reducible refine (hn7 _).mono ?_; rintro e w3 ⟨rfl, hb3⟩))
              all_goals go_ret
              all_goals exact ⟨1, rfl, by rw [H.out]; rfl, by first | exact ad_ _ _ _ | exact below_then (ad_ _ _ _) (ad_ _ _ _).size hb2 | exact below_then (below_then (ad_ _ _ _) (ad_ _ _ _).size hb2) (below_then (ad_ _ _ _) (ad_ _ _ _).size hb2).size hb3⟩
            · have r2 : (m == 2) = false := by simpa using m2
              have H : Hd (r = false) := ⟨by rw [hr]; clear hr hn6 hn7; first | (simp [okN, *]; done) | (simp [okN, *]; omega) | (simp [okN, *]; intros; omega)⟩
              clear hr
              go_enter Try.func44, Try.ntmps44
              go_wp2
              go_quiet (fail)
              go_wp2_with (go_at_call 48; first | (with_reducible refine (hn6 _).mono ?_; rintro e w2 ⟨rfl, hb2⟩; have z7 := blk_cell (box_at hb2) 7) | (with_reducible refine (hn7 _).mono ?_; rintro e w3 ⟨rfl, hb3⟩))
              all_goals go_ret
              all_goals exact ⟨1, rfl, by rw [H.out]; rfl, by first | exact ad_ _ _ _ | exact below_then (ad_ _ _ _) (ad_ _ _ _).size hb2 | exact below_then (below_then (ad_ _ _ _) (ad_ _ _ _).size hb2) (below_then (ad_ _ _ _) (ad_ _ _ _).size hb2).size hb3⟩
end Go.Proofs.Ytmjedjhgomlfiaa
