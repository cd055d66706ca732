/- The law AuditLeaks: its call returns true. -/
import Derived.Test.YtmjedjhgomlfiaaRefLawB
import Derived.Test.YtmjedjhgomlfiaaParts
import Derived.Deep.MidRow
set_option linter.unusedSimpArgs false
set_option linter.unusedVariables false
namespace Go.Proofs.Ytmjedjhgomlfiaa
open Go.RowKit Go.Proofs.YtmjedjhgomlfiaaW.PrintWords Go.Proofs.YtmjedjhgomlfiaaW.PrintLast Go.Proofs.Ytmjedjhgomlfiaa.PAuditLeaks

theorem range_blk {w : World} {g : Nat} {t : TypeId} {cs : List Value} (h : w.heap[g]? = some (.cells cs.toArray t (0, 0))) : w.rangeAt g 0 cs := by
  intro j v hv
  have := blk_list h hv
  simpa using this
theorem madeF_WF {acts : List S63} (hL : ∀ x ∈ acts, x.f5.length ≤ 200) : WF (madeF acts) := by
  have : ∀ (acts : List S63) (l : List S61), (∀ x ∈ acts, x.f5.length ≤ 200) → WF l → WF (acts.foldl doF l) := fun acts => by
    induction acts with
    | nil => exact fun l _ h => h
    | cons x r ih => exact fun l hx h => ih _ (fun y hy => hx y (List.mem_cons_of_mem _ hy)) (h.do x (by have := hx x List.mem_cons_self; omega))
  exact this acts [] hL WF.nil
theorem info34 : (Try.prog.info? 34).map (·.size) = some 19 := by kernel_rfl
set_option maxRecDepth 100000 in
set_option maxHeartbeats 6400000 in
theorem leaksLaw_any (acts : List S63) (A : Option Addr) (c : Nat) (w : World) (hC : Kd.C k63 w A acts.length acts) (hc : acts.length ≤ c) (hn : acts.length ≤ 9223372036854775807) (a0 a1 a2 a3 a4 a5 a6 : Int) (A7 : Option Addr) (c7 : Nat) (p : List Int) (b8 b9 b10 b11 b12 b13 b14 b15 : Bool) (a16 a17 a18 : Int) (hp : (Kd.int .i64).C w A7 p.length p) (hpc : p.length ≤ c7) :
    Calls Try.prog 5 #[.slice A acts.length c, .agg #[.int .i64 a0, .int .i64 a1, .int .i64 a2, .int .i64 a3, .int .i64 a4, .int .i64 a5, .int .i64 a6, .slice A7 p.length c7, .bool b8, .bool b9, .bool b10, .bool b11, .bool b12, .bool b13, .bool b14, .bool b15, .int .i64 a16, .int .i64 a17, .int .i64 a18]] w fun e w' => e = .returned (.bool true) ∧ Below w.heap.size w w' := by
  have hX0 := blk_new w (.cells #[.int .i64 a0, .int .i64 a1, .int .i64 a2, .int .i64 a3, .int .i64 a4, .int .i64 a5, .int .i64 a6, .slice A7 p.length c7, .bool b8, .bool b9, .bool b10, .bool b11, .bool b12, .bool b13, .bool b14, .bool b15, .int .i64 a16, .int .i64 a17, .int .i64 a18] 34)
  have hBx := below_alloc (Below.refl _ w) (.cells #[.int .i64 a0, .int .i64 a1, .int .i64 a2, .int .i64 a3, .int .i64 a4, .int .i64 a5, .int .i64 a6, .slice A7 p.length c7, .bool b8, .bool b9, .bool b10, .bool b11, .bool b12, .bool b13, .bool b14, .bool b15, .int .i64 a16, .int .i64 a17, .int .i64 a18] 34)
  obtain ⟨KG, hKG⟩ := great_f hn
  cases hg : greatB acts with
  | true =>
    have hgr := fun W (hW : Below w.heap.size w W) => towncrierlaw25_great.calls KG A c acts true W (Kd.C_below hC hW) hc (by rw [← hg]; exact hKG KG (Nat.le_refl _))
    clear hg hKG
    go_enter Try.func5, Try.ntmps5
    go_wp2_with (first
      | (go_at_call 6; refine (awake_any _).mono ?_; rintro e w1 ⟨rfl, hB1⟩; have hB2 := below_then hBx hBx.size hB1)
      | (go_at_call 17; refine (hgr _ hB2).mono ?_; rintro e w2 ⟨rfl, hB3⟩; have hB4 := below_then hB2 hB2.size hB3.below))
    go_ret
    exact ⟨rfl, hB4⟩
  | false =>
    have hgr := fun W (hW : Below w.heap.size w W) => towncrierlaw25_great.calls KG A c acts false W (Kd.C_below hC hW) hc (by rw [← hg]; exact hKG KG (Nat.le_refl _))
    obtain ⟨hn3, hL3⟩ := great_no hg
    clear hg hKG
    by_cases h200 : 200 < p.length
    · have q2 : (200 : Int) < (p.length : Int) := by omega
      go_enter Try.func5, Try.ntmps5
      go_wp2_with (first
        | (go_at_call 6; refine (awake_any _).mono ?_; rintro e w1 ⟨rfl, hB1⟩; have hB2 := below_then hBx hBx.size hB1)
        | (go_at_call 17; refine (hgr _ hB2).mono ?_; rintro e w2 ⟨rfl, hB3⟩; have hB4 := below_then hB2 hB2.size hB3.below; have z7 := blk_cell (blk_below hX0 (below_then hB1 hB1.size hB3.below)) 7))
      go_ret
      exact ⟨rfl, hB4⟩
    · have q2 : ¬ (200 : Int) < (p.length : Int) := by omega
      obtain ⟨KN, hKN⟩ := nodes_f hn3 hL3
      have hWF0 : WF (madeF acts) := madeF_WF hL3
      obtain ⟨KL, hKL⟩ := rleaks_f hWF0 (madeF_length acts) a0 a1 a2 a3 a4 a5 a6 p b8 b9 b10 b11 b12 b13 b14 b15 a16 a17 a18 (by omega)
      obtain ⟨KI, hKI⟩ := ints_f (xs := leaksF (madeF acts) a3 [] (a5 :: a6 :: p)) (by have := leaksF_length (madeF acts) a3 (a5 :: a6 :: p) []; simp at this; omega)
      go_enter Try.func5, Try.ntmps5
      go_wp2_with (first
        | (go_at_call 6; refine (awake_any _).mono ?_; rintro e w0 ⟨rfl, hB1⟩; have hB2 := below_then hBx hBx.size hB1)
        | (go_at_call 17; refine (hgr _ hB2).mono ?_; rintro e w1 ⟨rfl, hB3⟩; have hBw1 := below_then hB2 hB2.size hB3.below; have hX1 := blk_below hX0 (below_then hB1 hB1.size hB3.below); have z7 := blk_cell hX1 7))
      generalize w.heap.size = bx at hX1
      refine start_ (n := 10) (S := (fun W_ => W_.heap[bx]? = some (.cells #[.int .i64 a0, .int .i64 a1, .int .i64 a2, .int .i64 a3, .int .i64 a4, .int .i64 a5, .int .i64 a6, .slice A7 p.length c7, .bool b8, .bool b9, .bool b10, .bool b11, .bool b12, .bool b13, .bool b14, .bool b15, .int .i64 a16, .int .i64 a17, .int .i64 a18] 34 (0, 0)))) (ds := []) #[false, false, false, false, false, false, false, false, false, false] (by kernel_rfl) rfl rfl hX1 (fun hHeld => ?_)
      refine pure_ (i := 0) (N := (some 15)) (v := ?_) (a' := ?_) #[true, false, false, false, false, false, false, false, false, false] rfl rfl (by kernel_rfl) (fun _ _ _ h => h) (Or.inl ⟨by rfl, ?_⟩) ?_ ?_
      rotate_left
      · intro w'
        go_simp
        with_reducible rfl
      rotate_left
      · simp only [Act.put, List.setIfInBounds_toArray, List.set_cons_zero, List.set_cons_succ]
        rfl
      refine take_ (i := 2) (N := (some 17)) (v := .agg #[.int .i64 a0, .int .i64 a1, .int .i64 a2, .int .i64 a3, .int .i64 a4, .int .i64 a5, .int .i64 a6, .slice A7 p.length c7, .bool b8, .bool b9, .bool b10, .bool b11, .bool b12, .bool b13, .bool b14, .bool b15, .int .i64 a16, .int .i64 a17, .int .i64 a18]) (a' := ?_) #[true, false, true, false, false, false, false, false, false, false] rfl rfl (by kernel_rfl) (fun _ _ _ h => h) (yieldsIf_load_mid (by rfl) 34 (.tmp 3) rfl bx 0 rfl [.int .i64 a0, .int .i64 a1, .int .i64 a2, .int .i64 a3, .int .i64 a4, .int .i64 a5, .int .i64 a6, .slice A7 p.length c7, .bool b8, .bool b9, .bool b10, .bool b11, .bool b12, .bool b13, .bool b14, .bool b15, .int .i64 a16, .int .i64 a17, .int .i64 a18] _ (fun W h => range_blk h) Try.underlying34 rfl info34) hHeld ?_ ?_
      rotate_left
      · simp only [Act.put, List.setIfInBounds_toArray, List.set_cons_zero, List.set_cons_succ]
        rfl
      refine pure_ (i := 4) (N := (some 19)) (v := ?_) (a' := ?_) #[true, false, true, false, true, false, false, false, false, false] rfl rfl (by kernel_rfl) (fun _ _ _ h => h) (Or.inl ⟨by rfl, ?_⟩) ?_ ?_
      rotate_left
      · intro w'
        go_simp
        with_reducible rfl
      rotate_left
      · simp only [Act.put, List.setIfInBounds_toArray, List.set_cons_zero, List.set_cons_succ]
        rfl
      refine take_ (i := 6) (N := (some 21)) (v := .agg #[.int .i64 a0, .int .i64 a1, .int .i64 a2, .int .i64 a3, .int .i64 a4, .int .i64 a5, .int .i64 a6, .slice A7 p.length c7, .bool b8, .bool b9, .bool b10, .bool b11, .bool b12, .bool b13, .bool b14, .bool b15, .int .i64 a16, .int .i64 a17, .int .i64 a18]) (a' := ?_) #[true, false, true, false, true, false, true, false, false, false] rfl rfl (by kernel_rfl) (fun _ _ _ h => h) (yieldsIf_load_mid (by rfl) 34 (.tmp 3) rfl bx 0 rfl [.int .i64 a0, .int .i64 a1, .int .i64 a2, .int .i64 a3, .int .i64 a4, .int .i64 a5, .int .i64 a6, .slice A7 p.length c7, .bool b8, .bool b9, .bool b10, .bool b11, .bool b12, .bool b13, .bool b14, .bool b15, .int .i64 a16, .int .i64 a17, .int .i64 a18] _ (fun W h => range_blk h) Try.underlying34 rfl info34) hHeld ?_ ?_
      rotate_left
      · simp only [Act.put, List.setIfInBounds_toArray, List.set_cons_zero, List.set_cons_succ]
        rfl
      have hBwd := below_drew hBw1
      revert hHeld hBwd
      generalize w1.drew = wd
      intro hHeld hBwd
      refine one_ (i := 1) (N := some 16) #[true, true, true, false, true, false, true, false, false, false] rfl rfl (by kernel_rfl) (by decide) (fun K hK => ?_)
      refine goes_ Try.func20 (by kernel_rfl) rfl #[.slice A acts.length c] (by rfl) rfl rfl (by try simp only [List.map_toArray, List.map_cons, List.map_nil]; first | done | rfl) ?_
      refine (made_any acts A c wd (Kd.C_below hC hBwd) hn3 hL3).mono ?_
      rintro e v1 ⟨F, rfl, hM, hWF⟩
      have hBs := hM.base
      have hM := hM.read
      have hBv1 := below_then hBwd hBwd.size hBs
      refine ⟨_, rfl, ?_⟩
      refine hK.out _ _ (blk_below hHeld hBs) (fun hHeld => ?_)
      clear hK K
      refine norm_ (a' := ?_) ?_ ?_
      rotate_left
      · show Act.put _ (some 16) _ = _
        simp only [Act.put, List.setIfInBounds_toArray, List.set_cons_zero, List.set_cons_succ]
        rfl
      refine one_ (i := 3) (N := some 18) #[true, true, true, true, true, false, true, false, false, false] rfl rfl (by kernel_rfl) (by decide) (fun K hK => ?_)
      refine goes_ Try.func19 (by kernel_rfl) rfl #[.pointer (some ⟨F, 0, none⟩), .agg #[.int .i64 a0, .int .i64 a1, .int .i64 a2, .int .i64 a3, .int .i64 a4, .int .i64 a5, .int .i64 a6, .slice A7 p.length c7, .bool b8, .bool b9, .bool b10, .bool b11, .bool b12, .bool b13, .bool b14, .bool b15, .int .i64 a16, .int .i64 a17, .int .i64 a18]] (by rfl) rfl rfl (by try simp only [List.map_toArray, List.map_cons, List.map_nil]; first | done | rfl) ?_
      refine (leaks_any F (madeF acts) v1 hM hWF.kidsOk hWF.endsA a0 a1 a2 a3 a4 a5 a6 A7 c7 p b8 b9 b10 b11 b12 b13 b14 b15 a16 a17 a18 (Kd.C_below hp hBv1) (by omega)).mono ?_
      rintro e v2 ⟨vl, rfl, hLr, hBs⟩
      obtain ⟨Al, cl, rfl, hll, hLc⟩ := Kd.R_reads hLr
      clear hLr
      have hBv2 := below_then hBv1 hBv1.size hBs
      have hM := hM.below hBs
      refine ⟨_, rfl, ?_⟩
      refine hK.out _ _ (blk_below hHeld hBs) (fun hHeld => ?_)
      clear hK K
      refine norm_ (a' := ?_) ?_ ?_
      rotate_left
      · show Act.put _ (some 18) _ = _
        simp only [Act.put, List.setIfInBounds_toArray, List.set_cons_zero, List.set_cons_succ]
        rfl
      refine one_ (i := 5) (N := some 20) #[true, true, true, true, true, true, true, false, false, false] rfl rfl (by kernel_rfl) (by decide) (fun K hK => ?_)
      refine goes_ Try.func22 (by kernel_rfl) rfl #[.slice A acts.length c] (by rfl) rfl rfl (by try simp only [List.map_toArray, List.map_cons, List.map_nil]; first | done | rfl) ?_
      refine (towncrierref04_Nodes.calls KN A c acts (madeF acts) v2 (Kd.C_below hC hBv2) hc (hKN KN (Nat.le_refl _))).mono ?_
      rintro e v3 ⟨vn, rfl, hNv, hBs⟩
      obtain ⟨An, cn, rfl⟩ := Kd.V_slice hNv
      have hNl := (Kd.V_reads' hNv).2.1
      have hNc := (Kd.V_reads' hNv).2.2
      clear hNv
      have hBv3 := below_then hBv2 hBv2.size hBs
      have hM := hM.below hBs
      have hLc := Kd.C_below hLc hBs
      refine ⟨_, rfl, ?_⟩
      refine hK.out _ _ (blk_below hHeld hBs) (fun hHeld => ?_)
      clear hK K
      refine norm_ (a' := ?_) ?_ ?_
      rotate_left
      · show Act.put _ (some 20) _ = _
        simp only [Act.put, List.setIfInBounds_toArray, List.set_cons_zero, List.set_cons_succ]
        rfl
      refine one_ (i := 7) (N := some 22) #[true, true, true, true, true, true, true, true, false, false] rfl rfl (by kernel_rfl) (by decide) (fun K hK => ?_)
      refine goes_ Try.func21 (by kernel_rfl) rfl #[.slice An (madeF acts).length cn, .agg #[.int .i64 a0, .int .i64 a1, .int .i64 a2, .int .i64 a3, .int .i64 a4, .int .i64 a5, .int .i64 a6, .slice A7 p.length c7, .bool b8, .bool b9, .bool b10, .bool b11, .bool b12, .bool b13, .bool b14, .bool b15, .int .i64 a16, .int .i64 a17, .int .i64 a18]] (by rfl) rfl rfl (by try simp only [List.map_toArray, List.map_cons, List.map_nil]; first | done | rfl) ?_
      refine (towncrierref25_Leaks.calls KL An cn (madeF acts) a0 a1 a2 a3 a4 a5 a6 A7 c7 p b8 b9 b10 b11 b12 b13 b14 b15 a16 a17 a18 _ v3 hNc hNl (Kd.C_below hp hBv3) hpc (hKL KL (Nat.le_refl _))).mono ?_
      rintro e v4 ⟨vr, rfl, hRr, hBs⟩
      obtain ⟨Ar, cr, rfl, hrl, hRc⟩ := Kd.R_reads hRr
      clear hRr
      have hBv4 := below_then hBv3 hBv3.size hBs
      have hM := hM.below hBs
      have hLc := Kd.C_below hLc hBs
      have hNc := Kd.C_below hNc hBs
      refine ⟨_, rfl, ?_⟩
      refine hK.out _ _ (blk_below hHeld hBs) (fun hHeld => ?_)
      clear hK K
      refine norm_ (a' := ?_) ?_ ?_
      rotate_left
      · show Act.put _ (some 22) _ = _
        simp only [Act.put, List.setIfInBounds_toArray, List.set_cons_zero, List.set_cons_succ]
        rfl
      refine one_ (i := 8) (N := some 23) #[true, true, true, true, true, true, true, true, true, false] rfl rfl (by kernel_rfl) (by decide) (fun K hK => ?_)
      refine goes_ Try.func18 (by kernel_rfl) rfl #[.slice Al (leaksF (madeF acts) a3 [] (a5 :: a6 :: p)).length cl, .slice Ar (leaksF (madeF acts) a3 [] (a5 :: a6 :: p)).length cr] (by rfl) rfl rfl (by try simp only [List.map_toArray, List.map_cons, List.map_nil]; first | done | rfl) ?_
      refine (towncrierref01_Ints.calls KI Al cl (leaksF (madeF acts) a3 [] (a5 :: a6 :: p)) Ar cr (leaksF (madeF acts) a3 [] (a5 :: a6 :: p)) true v4 hLc hll hRc hrl (hKI KI (Nat.le_refl _))).mono ?_
      rintro e wz ⟨rfl, hBs⟩
      have hBz := below_then hBv4 hBv4.size hBs.below
      refine ⟨_, rfl, ?_⟩
      refine hK.out _ _ (blk_below hHeld hBs.below) (fun hHeld => ?_)
      clear hK K
      refine norm_ (a' := ?_) ?_ ?_
      rotate_left
      · show Act.put _ (some 23) _ = _
        simp only [Act.put, List.setIfInBounds_toArray, List.set_cons_zero, List.set_cons_succ]
        rfl
      refine pure_ (i := 9) (N := (some 4)) (v := ?_) (a' := ?_) #[true, true, true, true, true, true, true, true, true, true] rfl rfl (by kernel_rfl) (fun _ _ _ h => h) (Or.inl ⟨by rfl, ?_⟩) ?_ ?_
      rotate_left
      · intro w'
        go_simp
        with_reducible rfl
      rotate_left
      · simp only [Act.put, List.setIfInBounds_toArray, List.set_cons_zero, List.set_cons_succ]
        rfl
      refine done_ (by kernel_rfl) ?_
      go_wp2
      go_ret
      exact ⟨rfl, hBz⟩
end Go.Proofs.Ytmjedjhgomlfiaa
