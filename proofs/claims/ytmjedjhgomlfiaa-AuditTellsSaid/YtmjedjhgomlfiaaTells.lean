/- The law AuditTells: its call returns true. -/
import Derived.Test.YtmjedjhgomlfiaaPlan
import Derived.Test.YtmjedjhgomlfiaaRPairs
import Derived.Test.YtmjedjhgomlfiaaCounts
import Derived.Test.YtmjedjhgomlfiaaSame
import Derived.Test.YtmjedjhgomlfiaaParts
set_option linter.unusedSimpArgs false
namespace Go.Proofs.Ytmjedjhgomlfiaa
open Go.RowKit Go.Shelf Go.Proofs.YtmjedjhgomlfiaaW.PrintWords Go.Proofs.Ytmjedjhgomlfiaa.PAuditTells

set_option maxRecDepth 100000 in
set_option maxHeartbeats 3200000 in
theorem tells_any (l : List S34) (A : Option Addr) (c : Nat) (d x : Int) (p : List S57) (B : Option Addr) (c1 : Nat) (b : Bool) (m : List (Int × Int)) (C : Option Addr) (c2 : Nat) (n : List (Int × Int)) (D : Option Addr) (c3 : Nat) (w : World)
    (hl : Kd.C k34 w A l.length l) (hp : Kd.C k57 w B p.length p) (hm : kPair.C w C m.length m) (hn : kPair.C w D n.length n) (hmc : m.length ≤ c2) :
    Calls Try.prog 4 #[.slice A l.length c, .int .i64 d, .int .i64 x, .slice B p.length c1, .bool b, .slice C m.length c2, .slice D n.length c3] w fun e w' => e = .returned (.bool true) ∧ Below w.heap.size w w' := by
  by_cases hs : l.length ≤ 300 ∧ p.length ≤ 300 ∧ m.length ≤ 300 ∧ n.length ≤ 300
  · obtain ⟨s1, s2, s3, s4⟩ := hs
    go_enter Try.func4, Try.ntmps4
    go_wp2_with (go_at_call 6; refine (awake_any _).mono ?_; rintro e w1 ⟨rfl, hB1⟩)
    go_loopw [15, 16] (fun v i wr => ∃ (j : Nat), j ≤ l.length ∧ i = .int .i64 j ∧ v = .int .i64 (most (l.take j)) ∧ Below w.heap.size w wr) (fun _ i _ => l.length - (intOf i).toNat)
    case atStart => exact ⟨0, Nat.zero_le _, rfl, rfl, hB1⟩
    case round =>
      clear hB1
      obtain ⟨j, hj, rfl, rfl, hB⟩ := hrel
      by_cases hlt : j < l.length
      · obtain ⟨ad, e, cs, A7, c7, rfl, HX, hcells, _, _, _, _, k2, _, _, _, _, _, _, _, _, _, _, _, _, _, _, _, _, _, _⟩ := row_T34 (Kd.C_below hl hB) j hlt
        have f2 : wr.cell? ⟨(ad.add (j * 19)).block, (ad.add (j * 19)).off + 2, none⟩ = some (.int .i64 e.f2) := by simpa [Addr.add_succ'] using hcells 2 _ k2
        have HN := hide_ (most_next HX.out)
        generalize most (l.take j) = mm at *
        clear hcells k2
        go_wp2
        go_roundw
        case rel => exact ⟨j + 1, by omega, by go_num, by rw [HN.out, max_if], hB⟩
        case measure => simp [intOf]; omega
      · have HP : Hid (most (l.take j) = most l) := by show _ = _; rw [List.take_of_length_le (by omega)]
        rw [HP.out]
        clear HP
        go_wp2_with fail
        refine (pairs_any l A c d _ (Kd.C_below hl hB) (by omega)).mono ?_
        rintro e2 w2 ⟨v2, rfl, hR2, hB2⟩
        have hB2' := below_then hB hB.size hB2
        obtain ⟨A2, k2, rfl, _, hC2⟩ := Kd.R_reads hR2
        go_wp2_with fail
        refine (refPairs_any l A c d _ (Kd.C_below hl hB2') (by omega)).mono ?_
        rintro e3 w3 ⟨v3, rfl, hR3, hB3⟩
        have hB3' := below_then hB2' hB2'.size hB3
        obtain ⟨A3, k3, rfl, _, hC3⟩ := Kd.R_reads hR3
        have hpl : (prs l d).length ≤ l.length := by have h := prs_len l d l.length; rw [List.take_length] at h; exact h
        go_wp2_with fail
        refine (same_any (prs l d) (prs l d) A2 A3 k2 k3 _ (Kd.C_below hC2 hB3) hC3 (by omega) (by omega)).mono ?_
        rintro e4 w4 ⟨rfl, hB4⟩
        have hB4' := below_then hB3' hB3'.size hB4
        rw [show decide (prs l d = prs l d) = true from decide_eq_true rfl]
        clear hR2 hR3 hC2 hC3 hB2 hB3 hB4
        go_wp2_with fail
        refine (plan_any p B c1 b _ (Kd.C_below hp hB4') (by omega)).mono ?_
        rintro e5 w5 ⟨v5, rfl, hR5, hB5⟩
        have hB5' := below_then hB4' hB4'.size hB5
        obtain ⟨A5, k5, rfl, _, hC5⟩ := Kd.R_reads hR5
        go_wp2_with fail
        refine (refPlan_any p B c1 b _ (Kd.C_below hp hB5') (by omega)).mono ?_
        rintro e6 w6 ⟨v6, rfl, hR6, hB6⟩
        have hB6' := below_then hB5' hB5'.size hB6
        obtain ⟨A6, k6, rfl, _, hC6⟩ := Kd.R_reads hR6
        have hql : (planW p b).length ≤ 600 := by
          have := turnsW_length p b
          rw [planW, List.length_map]; omega
        go_wp2_with fail
        refine (same_any (planW p b) (planW p b) A5 A6 k5 k6 _ (Kd.C_below hC5 hB6) hC6 (by omega) (by omega)).mono ?_
        rintro e7 w7 ⟨rfl, hB7⟩
        have hB7' := below_then hB6' hB6'.size hB7
        rw [show decide (planW p b = planW p b) = true from decide_eq_true rfl]
        clear hR5 hR6 hC5 hC6 hB5 hB6 hB7
        go_wp2_with fail
        refine (within_any m n C D c2 c3 _ (Kd.C_below hm hB7') (Kd.C_below hn hB7') hmc (by omega) (by omega)).mono ?_
        rintro e8 w8 ⟨rfl, hB8⟩
        have hB8' := below_then hB7' hB7'.size hB8
        go_wp2_with fail
        refine (refWithin_any m n C D c2 c3 _ (Kd.C_below hm hB8') (Kd.C_below hn hB8') (by omega) (by omega)).mono ?_
        rintro e9 w9 ⟨rfl, hB9⟩
        have hB9' := below_then hB8' hB8'.size hB9
        generalize within m n = wmn at *
        have hww : (wmn == wmn) = true := by simp
        go_wp2_with fail
        refine (twice_any l A c x _ (Kd.C_below hl hB9') (by omega)).mono ?_
        rintro e10 w10 ⟨rfl, hB10⟩
        have hB10' := below_then hB9' hB9'.size hB10
        go_wp2_with fail
        refine (refRuns_any l A c x _ (Kd.C_below hl hB10') (by omega)).mono ?_
        rintro e11 w11 ⟨rfl, hB11⟩
        have hB11' := below_then hB10' hB10'.size hB11
        have htw : decide (1 < runs x l) = decide (1 < (runs x l : Int)) := by
          by_cases h : 1 < runs x l
          · rw [decide_eq_true h, decide_eq_true (by omega)]
          · rw [decide_eq_false h, decide_eq_false (by omega)]
        rw [htw]
        clear htw
        generalize (runs x l : Int) = rr at *
        go_wp2_with fail
        refine (dispatches_any l A c _ (Kd.C_below hl hB11') (by omega)).mono ?_
        rintro e12 w12 ⟨rfl, hB12⟩
        have hB12' := below_then hB11' hB11'.size hB12
        generalize most l = mo at *
        go_wp2_with fail
        go_ret
        exact ⟨rfl, hB12'⟩
  · have hb : (decide (300 < (l.length : Int)) || (decide (300 < (p.length : Int)) || (decide (300 < (m.length : Int)) || decide (300 < (n.length : Int))))) = true := by
      simp; omega
    go_enter Try.func4, Try.ntmps4
    go_wp2_with (go_at_call 6; refine (awake_any _).mono ?_; rintro e w1 ⟨rfl, hB1⟩)
    all_goals (go_ret; exact ⟨rfl, hB1⟩)
end Go.Proofs.Ytmjedjhgomlfiaa
