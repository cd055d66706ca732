/- The document's pairs of a dispatch: what the Go function answers. It writes nothing that was there. -/
import Derived.Test.YtmjedjhgomlfiaaPairs
import Derived.StillTailTactics
import Derived.RegionTactic
namespace Go.Proofs.Ytmjedjhgomlfiaa
open Go.RowKit Go.Proofs.YtmjedjhgomlfiaaW.PrintWords Go.Proofs.Ytmjedjhgomlfiaa.PAuditTells

set_option maxRecDepth 100000 in
set_option maxHeartbeats 1600000 in
theorem refPairs_any (l : List S34) (A : Option Addr) (c : Nat) (d : Int) (w : World) (hl : Kd.C k34 w A l.length l) (hll : l.length ≤ 4294967296) :
    Calls Try.prog 10 #[.slice A l.length c, .int .i64 d] w fun e w' => ∃ v, e = .returned v ∧ kPair.R 24 w' w.heap.size (fun _ => True) v (prs l d) ∧ Below w.heap.size w w' := by
  go_enter Try.func10, Try.ntmps10
  go_wp2
  go_loopw [5, 6] (fun v i wr => ∃ (j : Nat) (v0 : Value), j ≤ l.length ∧ i = .int .i64 j ∧ v0 = v ∧ kPair.R 24 wr w.heap.size (fun _ => True) v0 ((l.take j).foldl (prStep d) []) ∧ Below w.heap.size w wr) (fun _ i _ => l.length - (intOf i).toNat)
  case atStart => exact ⟨0, _, Nat.zero_le _, rfl, rfl, Kd.R_nil _ _ _ _ _, Below.refl _ _⟩
  case round =>
    obtain ⟨j, v, hj, rfl, rfl, hR, hB⟩ := hrel
    have hpl := prs_len l d j
    by_cases hlt : j < l.length
    · obtain ⟨ad, e, cs, A7, c7, rfl, HX, hcells, _, _, k0, _, k2, k3, k4, _, _, _, _, _, _, _, _, _, _, _, _, _, _, _, _⟩ := row_T34 (Kd.C_below hl hB) j hlt
      generalize hout : (l.take j).foldl (prStep d) [] = out at *
      have HN : Hid ((l.take (j + 1)).foldl (prStep d) [] = prStep d out e) := by rw [← hout]; exact prs_next HX.out
      have f0 : wr.cell? (ad.add (j * 19)) = some (.int .i64 e.f0) := by simpa [Addr.add_zero'] using hcells 0 _ k0
      have f2 : wr.cell? ⟨(ad.add (j * 19)).block, (ad.add (j * 19)).off + 2, none⟩ = some (.int .i64 e.f2) := by simpa [Addr.add_succ'] using hcells 2 _ k2
      have f3 : wr.cell? ⟨(ad.add (j * 19)).block, (ad.add (j * 19)).off + 3, none⟩ = some (.int .i64 e.f3) := by simpa [Addr.add_succ'] using hcells 3 _ k3
      have f4 : wr.cell? ⟨(ad.add (j * 19)).block, (ad.add (j * 19)).off + 4, none⟩ = some (.int .i64 e.f4) := by simpa [Addr.add_succ'] using hcells 4 _ k4
      clear hout hcells k0 k2 k3 k4
      by_cases h0 : e.f0 = 0
      · have h0b : (e.f0 == 0) = true := by simp [h0]
        have HS : Hid (prStep d out e = out) := if_neg (fun h => h.1 h0)
        clear h0
        go_wp2
        go_roundw
        case rel => exact ⟨j + 1, v, by omega, by go_num, rfl, by rw [HN.out, HS.out]; exact hR, hB⟩
        case measure => simp [intOf]; omega
      · have h0b : (e.f0 == 0) = false := by simp [h0]
        by_cases h2 : e.f2 = d
        · have h2b : (e.f2 != d) = false := by simp [h2]
          have H0 := hide_ h0
          have H2 := hide_ h2
          clear h0 h2
          go_wp2
          have g3 : (wr.alloc (.cells #[.int .i64 0, .int .i64 0] 24)).cell? ⟨(ad.add (j * 19)).block, (ad.add (j * 19)).off + 3, none⟩ = some (.int .i64 e.f3) := pw_cell_below (below_alloc (Below.refl _ _) _) f3
          have g4 : (wr.alloc (.cells #[.int .i64 0, .int .i64 0] 24)).cell? ⟨(ad.add (j * 19)).block, (ad.add (j * 19)).off + 4, none⟩ = some (.int .i64 e.f4) := pw_cell_below (below_alloc (Below.refl _ _) _) f4
          go_region
          have hBx : Below wr.heap.size wr (wr.alloc (.cells #[.int .i64 e.f3, .int .i64 e.f4] 24)).drew := below_drew (below_alloc (Below.refl _ _) _)
          have hx0 : (wr.alloc (.cells #[.int .i64 e.f3, .int .i64 e.f4] 24)).drew.cell? ⟨wr.heap.size, 0, none⟩ = some (.int .i64 e.f3) := by simp
          have hx1 : (wr.alloc (.cells #[.int .i64 e.f3, .int .i64 e.f4] 24)).drew.cell? ⟨wr.heap.size, 1, none⟩ = some (.int .i64 e.f4) := by simp
          generalize (wr.alloc (.cells #[.int .i64 e.f3, .int .i64 e.f4] 24)).drew = W2 at hBx hx0 hx1 ⊢
          clear g3 g4 f0 f2 f3 f4
          rcases hoc : out with _ | ⟨y, ys⟩
          · obtain ⟨A', c', rfl, hc', hC'⟩ := Kd.R_reads hR
            have hl0 : ((out.length : Int) == 0) = true := by rw [hoc]; rfl
            have HS : Hid (prStep d out e = out ++ [(e.f3, e.f4)]) := if_pos ⟨H0.out, H2.out, by rw [hoc]; simp⟩
            have HO' := hide_ hoc
            clear hoc
            go_wp2
            go_quiet (fail)
            have hBy : Below wr.heap.size wr (W2.drewN nq) := pw_below_drewN hBx _
            have hy0 : (W2.drewN nq).cell? ⟨wr.heap.size, 0, none⟩ = some (.int .i64 e.f3) := hx0
            have hy1 : (W2.drewN nq).cell? ⟨wr.heap.size, 1, none⟩ = some (.int .i64 e.f4) := hx1
            generalize W2.drewN nq = W3 at hBy hy0 hy1 ⊢
            clear hx0 hx1
            go_wp2_with (at_builtin; refine Kd.R_append kPair (w0 := w) w.heap.size rfl (.tmp 53) (.tmp 55) 22 24 _ 16 rfl Try.underlying22 info24 rfl (by decide) (by decide) (Value.slice A' out.length c') _ (e.f3, e.f4) _ (fun _ => True) (fun j => True ∧ some j ≠ (Value.slice A' out.length c').ownBlock) rfl rfl (kPair_M _ _) (fun _ h => h) (fun _ _ => trivial) (Kd.R_below hR hBy) (below_then hB hB.size hBy) (below_then hB hB.size hBy).size (by omega) ?_; intro v1 w2 hR1 hB2 hg2 hat2; clear hg2 hat2)
            go_roundw
            case rel => exact ⟨j + 1, v1, by omega, by go_num, rfl, by rw [HN.out, HS.out]; exact hR1, hB2⟩
            case measure => simp [intOf]; omega
          · obtain ⟨A', c', rfl, hc', hC'⟩ := Kd.R_reads hR
            have hpos : 0 < out.length := by rw [hoc]; simp
            obtain ⟨bd, p, q, rfl, HY, hc2, hc3⟩ := pair_at hC' (out.length - 1) (by omega)
            have g2 := pw_cell_below hBx hc2
            have g3 := pw_cell_below hBx hc3
            have HO' := hide_ hoc
            clear hoc hc2 hc3
            have hl0 : ((out.length : Int) == 0) = false := by rw [beq_eq_false_iff_ne]; omega
            by_cases hxy : (p, q) = (e.f3, e.f4)
            · have heq := eqq_pair p q e.f3 e.f4 hxy
              have HS : Hid (prStep d out e = out) := if_neg (fun h => h.2.2 (by rw [last_at HY.out, hxy]))
              clear hxy
              go_wp2
              go_quiet (fail)
              go_wp2
              go_roundw
              case rel => exact ⟨j + 1, _, by omega, by go_num, rfl, by rw [HN.out, HS.out]; exact Kd.R_below hR (pw_below_drewN hBx _), pw_below_drewN (below_then hB hB.size hBx) _⟩
              case measure => simp [intOf]; omega
            · have heq := neq_pair p q e.f3 e.f4 hxy
              have HS : Hid (prStep d out e = out ++ [(e.f3, e.f4)]) := if_pos ⟨H0.out, H2.out, fun h => hxy (by rw [last_at HY.out] at h; exact Option.some.inj h)⟩
              clear hxy
              go_wp2
              go_quiet (fail)
              have hBy : Below wr.heap.size wr (W2.drewN nq) := pw_below_drewN hBx _
              have hy0 : (W2.drewN nq).cell? ⟨wr.heap.size, 0, none⟩ = some (.int .i64 e.f3) := hx0
              have hy1 : (W2.drewN nq).cell? ⟨wr.heap.size, 1, none⟩ = some (.int .i64 e.f4) := hx1
              generalize W2.drewN nq = W3 at hBy hy0 hy1 ⊢
              clear hx0 hx1
              go_wp2_with (at_builtin; refine Kd.R_append kPair (w0 := w) w.heap.size rfl (.tmp 53) (.tmp 55) 22 24 _ 16 rfl Try.underlying22 info24 rfl (by decide) (by decide) (Value.slice (some bd) out.length c') _ (e.f3, e.f4) _ (fun _ => True) (fun j => True ∧ some j ≠ (Value.slice (some bd) out.length c').ownBlock) rfl rfl (kPair_M _ _) (fun _ h => h) (fun _ _ => trivial) (Kd.R_below hR hBy) (below_then hB hB.size hBy) (below_then hB hB.size hBy).size (by omega) ?_; intro v1 w2 hR1 hB2 hg2 hat2; clear hg2 hat2)
              go_roundw
              case rel => exact ⟨j + 1, v1, by omega, by go_num, rfl, by rw [HN.out, HS.out]; exact hR1, hB2⟩
              case measure => simp [intOf]; omega
        · have h2b : (e.f2 != d) = true := by simp [h2]
          have HS : Hid (prStep d out e = out) := if_neg (fun h => h2 h.2.1)
          clear h0 h2
          go_wp2
          go_roundw
          case rel => exact ⟨j + 1, v, by omega, by go_num, rfl, by rw [HN.out, HS.out]; exact hR, hB⟩
          case measure => simp [intOf]; omega
    · have HP : Hid (prs l d = (l.take j).foldl (prStep d) []) := by
        show prs l d = _
        rw [List.take_of_length_le (by omega)]
        rfl
      go_wp2
      go_ret
      exact ⟨v, rfl, by rw [HP.out]; exact hR, hB⟩
end Go.Proofs.Ytmjedjhgomlfiaa
